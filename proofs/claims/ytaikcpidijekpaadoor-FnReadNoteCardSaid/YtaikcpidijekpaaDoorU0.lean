/- What the laws on texts of notes draw; their walks. Conditions: on the world: the library's variables are at hand. -/
import Derived.Test.YtaikcpidijekpaaDoorTK
import Derived.Test.YtaikcpidijekpaaDoorR1
import Derived.Test.YtaikcpidijekpaaDoorTV
namespace Go.Proofs.YtaikcpidijekpaaDoor
open Go.RowKit
set_option linter.unusedSimpArgs false
set_option linter.unusedVariables false
set_option maxHeartbeats 4000000
set_option maxRecDepth 100000
theorem run_eql_nt1 (xr : Bool) (xs xa xo xt : Int) (xd : Bool) (w : World) :
    (binOp .eql 29 (.agg #[.bool xr, .int .i64 xs, .int .i64 xa, .int .i64 xo, .int .i64 xt, .bool xd]) (.agg #[.bool xr, .int .i64 xs, .int .i64 xa, .int .i64 xo, .int .i64 xt, .bool xd])).run Tryd.prog w = .ok (.bool true) w := by
  simp [go_sem]
theorem run_neq_nt1 (xr : Bool) (xs xa xo xt : Int) (xd : Bool) (w : World) :
    (binOp .neq 29 (.agg #[.bool xr, .int .i64 xs, .int .i64 xa, .int .i64 xo, .int .i64 xt, .bool xd]) (.agg #[.bool xr, .int .i64 xs, .int .i64 xa, .int .i64 xo, .int .i64 xt, .bool xd])).run Tryd.prog w = .ok (.bool false) w := by
  simp [go_sem]
theorem walk_FnExactReadNote (w : World) (x : ByteArray) (hx : x.size ≤ maxLen) (hw : Wd w) :
    Calls Tryd.prog 5 #[.string x] w fun e w' => e = .returned (.bool true) ∧ Below w.heap.size w w' := by
  obtain ⟨l, rfl⟩ : ∃ l : List UInt8, x = ⟨l.toArray⟩ := ⟨x.data.toList, by simp⟩
  have hsz : (ByteArray.mk l.toArray).size = l.length := by simp [ByteArray.size]
  unfold maxLen at hx
  rw [hsz] at hx
  have HW := Lib.hid (fun w' (h : Below w.heap.size w w') => hw.bel h)
  clear hw
  by_cases hlen : l.length ≤ 1048576
  · have hlen' : ¬ (1048576 : Int) < (l.length : Int) := by omega
    have HS := Lib.hid (fun W => c_sReadNote l W (by omega))
    have HI := Lib.hid (fun W h => c_iReadNote l W (by omega) h)
    generalize rdN l = rn at *
    obtain ⟨⟨r, ⟨s, a, o⟩, t, d⟩, ok⟩ := rn
    have HE := Lib.hid (fun W => c_eqNote ⟨r, ⟨s, a, o⟩, t, d⟩ ⟨r, ⟨s, a, o⟩, t, d⟩ W)
    rw [ntEq_iff.2 rfl] at HE
    go_enter Tryd.func5, Tryd.ntmps5
    go_wp2_with fail
    (go_at_call 17; (with_reducible refine (HS.out _).mono ?_); rintro e w1 ⟨rfl, hb1⟩)
    have HA1 := Lib.hid (heap_alloc_new w1 (.cells #[.bool r, .int .i64 s, .int .i64 a, .int .i64 o, .int .i64 t, .bool d] 29))
    have S := hb1.alloc hb1.size (.cells #[.bool r, .int .i64 s, .int .i64 a, .int .i64 o, .int .i64 t, .bool d] 29)
    go_wp2_with fail
    (go_at_call 16; (with_reducible refine (HI.out _ (HW.out _ S)).mono ?_); rintro e w2 ⟨rfl, hb2⟩)
    have S := S.trans (hb2.mono S.size)
    have h2 := below_heap hb2 HA1.out
    obtain ⟨_, _⟩ := blk_facts h2
    have hz2 : w1.heap.size < w2.heap.size := (Array.getElem?_eq_some_iff.1 h2).1
    go_wp2_with fail
    have hzS := S.size
    (go_at_call 18; (with_reducible refine (HE.out _).mono ?_); rintro e w3 ⟨rfl, hbq⟩; have hzq := hbq.size; (try simp only [size_alloc', size_setCell', size_drew', size_drewN'] at hzq); (try (refine keep_heap (b := w1.heap.size) hbq ?_ ?_; (first | omega | (simp only [size_alloc', size_setCell', size_drew', size_drewN']; omega)); intro hkq; simp only [heap_alloc_get, heap_setCell_get, heap_drew_get, heap_drewN_get, size_alloc', size_setCell', size_drew', size_drewN', nat_simp1, nat_simp2, nat_simp3, nat_simp4, nat_simp5, if_true, if_false, *] at hkq; obtain ⟨_, _⟩ := blk_facts hkq)); (try (refine keep_heap (b := w2.heap.size) hbq ?_ ?_; (first | omega | (simp only [size_alloc', size_setCell', size_drew', size_drewN']; omega)); intro hkq; simp only [heap_alloc_get, heap_setCell_get, heap_drew_get, heap_drewN_get, size_alloc', size_setCell', size_drew', size_drewN', nat_simp1, nat_simp2, nat_simp3, nat_simp4, nat_simp5, if_true, if_false, *] at hkq; obtain ⟨_, _⟩ := blk_facts hkq)); skip)
    go_wp2_with fail
    go_ret
    exact ⟨rfl, by (repeat' (first | (with_reducible exact Below.refl _ _) | (with_reducible refine Below.setCell ?_ ?_ _) | (with_reducible refine Below.alloc ?_ ?_ _) | (with_reducible refine Below.drew ?_) | (with_reducible refine below_drewN ?_ _) | (with_reducible refine Below.trans ?_ (Below.mono (by with_reducible assumption) ?_)) | omega | (simp only [size_alloc', size_setCell', size_drew', size_drewN'] at *; omega)))⟩
  · have hlen' : (1048576 : Int) < (l.length : Int) := by omega
    go_enter Tryd.func5, Tryd.ntmps5
    go_wp2_with fail
    go_ret
    exact ⟨rfl, Below.refl _ _⟩
def DNote (w : World) (e : Ending) (w' : World) : Prop := ∃ n : Nt, e = .returned n.v ∧ Below w.heap.size w w'
theorem c_DrawNoteText (v : Value) (bs : List Int) (w : World) (h : Rd w v 1 bs.length (byteCells bs)) (hb : ∀ x ∈ bs, 0 ≤ x ∧ x ≤ 255) :
    Calls Tryd.prog 13 #[v] w (DNote w) := by
  go_enter Tryd.func13, Tryd.ntmps13
  go_wp2_with fail
  (go_at_call 38; (with_reducible refine (c_open _ _ _ (h.alloc _) hb).mono ?_); rintro e w1 ⟨g, rfl, hg, hr1, hbq⟩; have hzq := hbq.size; (try simp only [size_alloc', size_setCell', size_drew', size_drewN'] at hzq hg); (try (refine keep_heap (b := w.heap.size) hbq ?_ ?_; (first | omega | (simp only [size_alloc', size_setCell', size_drew', size_drewN']; omega)); intro hkq; simp only [heap_alloc_get, heap_setCell_get, heap_drew_get, heap_drewN_get, size_alloc', size_setCell', size_drew', size_drewN', nat_simp1, nat_simp2, nat_simp3, nat_simp4, nat_simp5, if_true, if_false, *] at hkq; obtain ⟨_, _⟩ := blk_facts hkq)); (try (refine ne_cps (a := w.heap.size) (b := w1.heap.size) ?_ ?_; omega; intro _ _)); (try (refine ne_cps (a := w.heap.size) (b := w1.heap.size + 1) ?_ ?_; omega; intro _ _)); (try (refine ne_cps (a := w.heap.size) (b := w1.heap.size + 1 + 1) ?_ ?_; omega; intro _ _)); skip)
  have hr2 := hr1.mono (m' := 1 + 18) (by omega)
  clear hr1
  go_wp2_with fail
  (go_at_call 39; (with_reducible refine (c_l20Note g 1 _ _ ?_ (by omega) (by omega)).mono ?_); (focus (repeat' (first | (with_reducible assumption) | (with_reducible refine Rdr.alloc ?_ _) | (with_reducible refine Rdr.setCell ?_ ?_ _) | (with_reducible refine Rdr.drewN ?_ _) | (with_reducible refine Rdr.drew ?_) | (show _ < _; first | omega | (simp only [size_alloc', size_setCell', size_drew', size_drewN'] at *; omega))))); rintro e w2 ⟨⟨r, ⟨a, b, c⟩, t, d⟩, rfl, hsm, hrq, hgq⟩; have hsq := hgq.size; (try simp only [size_alloc', size_setCell', size_drew', size_drewN'] at hsq); (try (refine keep_heap_g (b := w.heap.size) hgq ?_ ?_ ?_; (first | omega | (simp only [size_alloc', size_setCell', size_drew', size_drewN']; omega)); omega; intro hkq; simp only [heap_alloc_get, heap_setCell_get, heap_drew_get, heap_drewN_get, size_alloc', size_setCell', size_drew', size_drewN', nat_simp1, nat_simp2, nat_simp3, nat_simp4, nat_simp5, if_true, if_false, Option.map_some, *] at hkq; obtain ⟨_, _⟩ := blk_facts hkq)); (try (refine ne_cps (a := w.heap.size) (b := w2.heap.size) ?_ ?_; omega; intro _ _)); (try (refine ne_cps (a := w.heap.size) (b := w2.heap.size + 1) ?_ ?_; omega; intro _ _)); (try (refine ne_cps (a := w.heap.size) (b := w2.heap.size + 1 + 1) ?_ ?_; omega; intro _ _)); skip)
  clear hsm
  have hB2 : Below w.heap.size w w2 := by
    have hb2 : Below (w.heap.size + 1) (w.alloc (.cells #[.bool false, .int .i64 0, .int .i64 0, .int .i64 0, .int .i64 0, .bool false] 29)) w2 := below_of_kp (hbq.mono (by simp)) hgq (by omega) (by omega)
    exact (bel1 w _).trans (hb2.mono (by omega))
  have HB2 := Lib.hid hB2
  have hwg : w.heap.size ≤ g := by omega
  have hz02 := hB2.size
  have hz12 := hgq.size
  have hgl := hrq.lt
  clear hgq hbq
  cases d
  · cases r
    · go_wp2_with fail
      (go_at_call 40; (with_reducible refine (c_pick g (0) _ _ ?_ (by omega) (by omega)).mono ?_); (focus (repeat' (first | (with_reducible assumption) | (with_reducible refine Rdr.alloc ?_ _) | (with_reducible refine Rdr.setCell ?_ ?_ _) | (with_reducible refine Rdr.drewN ?_ _) | (with_reducible refine Rdr.drew ?_) | (show _ < _; first | omega | (simp only [size_alloc', size_setCell', size_drew', size_drewN'] at *; omega))))); rintro e w3 ⟨x3, rfl, hx3, hy3, hz3, hrq, hgq⟩; have hsq := hgq.size; (try simp only [size_alloc', size_setCell', size_drew', size_drewN'] at hsq); (try (refine keep_heap_g (b := w.heap.size) hgq ?_ ?_ ?_; (first | omega | (simp only [size_alloc', size_setCell', size_drew', size_drewN']; omega)); omega; intro hkq; simp only [heap_alloc_get, heap_setCell_get, heap_drew_get, heap_drewN_get, size_alloc', size_setCell', size_drew', size_drewN', nat_simp1, nat_simp2, nat_simp3, nat_simp4, nat_simp5, if_true, if_false, Option.map_some, *] at hkq; obtain ⟨_, _⟩ := blk_facts hkq)); (try (refine keep_heap_g (b := w2.heap.size) hgq ?_ ?_ ?_; (first | omega | (simp only [size_alloc', size_setCell', size_drew', size_drewN']; omega)); omega; intro hkq; simp only [heap_alloc_get, heap_setCell_get, heap_drew_get, heap_drewN_get, size_alloc', size_setCell', size_drew', size_drewN', nat_simp1, nat_simp2, nat_simp3, nat_simp4, nat_simp5, if_true, if_false, Option.map_some, *] at hkq; obtain ⟨_, _⟩ := blk_facts hkq)); (try (refine ne_cps (a := w.heap.size) (b := w3.heap.size) ?_ ?_; omega; intro _ _)); (try (refine ne_cps (a := w.heap.size) (b := w3.heap.size + 1) ?_ ?_; omega; intro _ _)); (try (refine ne_cps (a := w.heap.size) (b := w3.heap.size + 1 + 1) ?_ ?_; omega; intro _ _)); (try (refine ne_cps (a := w2.heap.size) (b := w3.heap.size) ?_ ?_; omega; intro _ _)); (try (refine ne_cps (a := w2.heap.size) (b := w3.heap.size + 1) ?_ ?_; omega; intro _ _)); (try (refine ne_cps (a := w2.heap.size) (b := w3.heap.size + 1 + 1) ?_ ?_; omega; intro _ _)); skip)
      have HB3 := Lib.hid (show Below w.heap.size w w3 from below_of_kp (HB2.out.alloc HB2.out.size (.cells #[.bool false, .int .i64 a, .int .i64 b, .int .i64 c, .int .i64 t, .bool false] 29)) hgq (by omega) (by rw [size_alloc']; omega))
      have hB3 := HB3.out
      clear hgq
      by_cases hx : x3 = 0
      · subst hx
        go_wp2_with fail
        (refine bodyPost_ret (results_cell_row rfl _ _ (w.heap.size) 29 #[.bool false, .int .i64 a, .int .i64 b, .int .i64 c, .int .i64 t, .bool true] (0, 0) _ rfl ?_ Tryd.underlying29 rfl (by kernel_rfl)) rfl ?_)
        · (simp only [heap_alloc_get, heap_setCell_get, heap_drew_get, heap_drewN_get, size_alloc', size_setCell', size_drew', size_drewN', nat_simp1, nat_simp2, nat_simp3, nat_simp4, nat_simp5, if_true, if_false, Option.map_some, *]; first | done | rfl | simp)
        · exact ⟨⟨false, ⟨a, b, c⟩, t, true⟩, rfl, by (repeat' (first | (with_reducible exact Below.refl _ _) | (with_reducible refine Below.setCell ?_ ?_ _) | (with_reducible refine Below.alloc ?_ ?_ _) | (with_reducible refine Below.drew ?_) | (with_reducible refine below_drewN ?_ _) | (with_reducible refine Below.trans ?_ (Below.mono (by with_reducible assumption) ?_)) | omega | (simp only [size_alloc', size_setCell', size_drew', size_drewN'] at *; omega)))⟩
      · have hx1 : (x3 == 0) = false := beq_eq_false_iff_ne.2 hx
        have hx2 : decide (x3 = 0) = false := decide_eq_false hx
        go_wp2_with fail
        (refine bodyPost_ret (results_cell_row rfl _ _ (w.heap.size) 29 #[.bool false, .int .i64 a, .int .i64 b, .int .i64 c, .int .i64 t, .bool false] (0, 0) _ rfl ?_ Tryd.underlying29 rfl (by kernel_rfl)) rfl ?_)
        · (simp only [heap_alloc_get, heap_setCell_get, heap_drew_get, heap_drewN_get, size_alloc', size_setCell', size_drew', size_drewN', nat_simp1, nat_simp2, nat_simp3, nat_simp4, nat_simp5, if_true, if_false, Option.map_some, *]; first | done | rfl | simp)
        · exact ⟨⟨false, ⟨a, b, c⟩, t, false⟩, rfl, by (repeat' (first | (with_reducible exact Below.refl _ _) | (with_reducible refine Below.setCell ?_ ?_ _) | (with_reducible refine Below.alloc ?_ ?_ _) | (with_reducible refine Below.drew ?_) | (with_reducible refine below_drewN ?_ _) | (with_reducible refine Below.trans ?_ (Below.mono (by with_reducible assumption) ?_)) | omega | (simp only [size_alloc', size_setCell', size_drew', size_drewN'] at *; omega)))⟩
    · skip
      have hA := below_heap (bel1 w2 (.cells #[.bool true, .int .i64 a, .int .i64 b, .int .i64 c, .int .i64 t, .bool false] 29)) (by assumption : w2.heap[w.heap.size]? = some (.cells #[.bool false, .int .i64 0, .int .i64 0, .int .i64 0, .int .i64 0, .bool false] 29 (0, 0)))
      obtain ⟨_, _⟩ := blk_facts hA
      go_wp2_with fail
      (refine bodyPost_ret (results_cell_row rfl _ _ (w.heap.size) 29 #[.bool true, .int .i64 a, .int .i64 b, .int .i64 c, .int .i64 t, .bool false] (0, 0) _ rfl ?_ Tryd.underlying29 rfl (by kernel_rfl)) rfl ?_)
      · (simp only [heap_alloc_get, heap_setCell_get, heap_drew_get, heap_drewN_get, size_alloc', size_setCell', size_drew', size_drewN', nat_simp1, nat_simp2, nat_simp3, nat_simp4, nat_simp5, if_true, if_false, Option.map_some, *]; first | done | rfl | simp)
      · exact ⟨⟨true, ⟨a, b, c⟩, t, false⟩, rfl, by (repeat' (first | (with_reducible exact Below.refl _ _) | (with_reducible refine Below.setCell ?_ ?_ _) | (with_reducible refine Below.alloc ?_ ?_ _) | (with_reducible refine Below.drew ?_) | (with_reducible refine below_drewN ?_ _) | (with_reducible refine Below.trans ?_ (Below.mono (by with_reducible assumption) ?_)) | omega | (simp only [size_alloc', size_setCell', size_drew', size_drewN'] at *; omega)))⟩
  · skip
    have hA := below_heap (bel1 w2 (.cells #[.bool r, .int .i64 a, .int .i64 b, .int .i64 c, .int .i64 t, .bool true] 29)) (by assumption : w2.heap[w.heap.size]? = some (.cells #[.bool false, .int .i64 0, .int .i64 0, .int .i64 0, .int .i64 0, .bool false] 29 (0, 0)))
    obtain ⟨_, _⟩ := blk_facts hA
    go_wp2_with fail
    (refine bodyPost_ret (results_cell_row rfl _ _ (w.heap.size) 29 #[.bool r, .int .i64 a, .int .i64 b, .int .i64 c, .int .i64 t, .bool true] (0, 0) _ rfl ?_ Tryd.underlying29 rfl (by kernel_rfl)) rfl ?_)
    · (simp only [heap_alloc_get, heap_setCell_get, heap_drew_get, heap_drewN_get, size_alloc', size_setCell', size_drew', size_drewN', nat_simp1, nat_simp2, nat_simp3, nat_simp4, nat_simp5, if_true, if_false, Option.map_some, *]; first | done | rfl | simp)
    · exact ⟨⟨r, ⟨a, b, c⟩, t, true⟩, rfl, by (repeat' (first | (with_reducible exact Below.refl _ _) | (with_reducible refine Below.setCell ?_ ?_ _) | (with_reducible refine Below.alloc ?_ ?_ _) | (with_reducible refine Below.drew ?_) | (with_reducible refine below_drewN ?_ _) | (with_reducible refine Below.trans ?_ (Below.mono (by with_reducible assumption) ?_)) | omega | (simp only [size_alloc', size_setCell', size_drew', size_drewN'] at *; omega)))⟩
theorem walk_FnNoteText (w : World) (v : Value) (bs : List Int) (h : Rd w v 1 bs.length (byteCells bs)) (hb : ∀ x ∈ bs, 0 ≤ x ∧ x ≤ 255) (hw : Wd w) :
    Calls Tryd.prog 4 #[v] w fun e w' => e = .returned (.bool true) ∧ Below w.heap.size w w' := by
  have h' := Lib.hid h
  have HW := Lib.hid (fun w' (h : Below w.heap.size w w') => hw.bel h)
  clear hw
  obtain ⟨_, A, c0, rfl, hnc, hcm, hA⟩ := h
  unfold maxLen at hcm
  clear hA
  by_cases hlen : bs.length ≤ 1048576
  · go_enter Tryd.func4, Tryd.ntmps4
    go_wp2_with fail
    (go_at_call 13; (with_reducible refine (c_DrawNoteText _ bs _ h'.out hb).mono ?_); rintro e w1 ⟨⟨r, ⟨s, a, o⟩, t, d⟩, rfl, hb1⟩)
    have HA1 := Lib.hid (heap_alloc_new w1 (.cells #[.bool r, .int .i64 s, .int .i64 a, .int .i64 o, .int .i64 t, .bool d] 29))
    have S := hb1.alloc hb1.size (.cells #[.bool r, .int .i64 s, .int .i64 a, .int .i64 o, .int .i64 t, .bool d] 29)
    have HI := Lib.hid (fun W h => c_iNoteText ⟨r, ⟨s, a, o⟩, t, d⟩ W h)
    have HS := Lib.hid (fun W => c_sNoteText ⟨r, ⟨s, a, o⟩, t, d⟩ W)
    have HV := Lib.hid (fun W => c_sNoteValid ⟨r, ⟨s, a, o⟩, t, d⟩ W)
    have hz1 := hb1.size
    cases hv : noteValid ⟨r, ⟨s, a, o⟩, t, d⟩
    · have hT : noteT ⟨r, ⟨s, a, o⟩, t, d⟩ = [] := by unfold noteT; rw [hv]; rfl
      rw [hT] at HI HS
      rw [hv] at HV
      clear hT hv
      go_wp2_with fail
      (go_at_call 12; (with_reducible refine (HI.out _ (HW.out _ S).tab).mono ?_); rintro e w2 ⟨rfl, hbq⟩; have hzq := hbq.size; (try simp only [size_alloc', size_setCell', size_drew', size_drewN'] at hzq); (try (refine keep_heap (b := w1.heap.size) hbq ?_ ?_; (first | omega | (simp only [size_alloc', size_setCell', size_drew', size_drewN']; omega)); intro hkq; simp only [heap_alloc_get, heap_setCell_get, heap_drew_get, heap_drewN_get, size_alloc', size_setCell', size_drew', size_drewN', nat_simp1, nat_simp2, nat_simp3, nat_simp4, nat_simp5, if_true, if_false, *] at hkq; obtain ⟨_, _⟩ := blk_facts hkq)); skip)
      have S := S.trans (hbq.mono S.size)
      go_wp2_with fail
      (go_at_call 10; (with_reducible refine (HS.out _).mono ?_); rintro e w3 ⟨rfl, hbq⟩; have hzq := hbq.size; (try simp only [size_alloc', size_setCell', size_drew', size_drewN'] at hzq); (try (refine keep_heap (b := w1.heap.size) hbq ?_ ?_; (first | omega | (simp only [size_alloc', size_setCell', size_drew', size_drewN']; omega)); intro hkq; simp only [heap_alloc_get, heap_setCell_get, heap_drew_get, heap_drewN_get, size_alloc', size_setCell', size_drew', size_drewN', nat_simp1, nat_simp2, nat_simp3, nat_simp4, nat_simp5, if_true, if_false, *] at hkq; obtain ⟨_, _⟩ := blk_facts hkq)); skip)
      have S := S.trans (hbq.mono S.size)
      go_wp2_with fail
      (go_at_call 14; (with_reducible refine (HV.out _).mono ?_); rintro e w4 ⟨rfl, hbq⟩; have hzq := hbq.size; (try simp only [size_alloc', size_setCell', size_drew', size_drewN'] at hzq); (try (refine keep_heap (b := w1.heap.size) hbq ?_ ?_; (first | omega | (simp only [size_alloc', size_setCell', size_drew', size_drewN']; omega)); intro hkq; simp only [heap_alloc_get, heap_setCell_get, heap_drew_get, heap_drewN_get, size_alloc', size_setCell', size_drew', size_drewN', nat_simp1, nat_simp2, nat_simp3, nat_simp4, nat_simp5, if_true, if_false, *] at hkq; obtain ⟨_, _⟩ := blk_facts hkq)); skip)
      have S := S.trans (hbq.mono S.size)
      go_wp2_with fail
      (go_at_call 15; (with_reducible refine (c_alive _).mono ?_); rintro e w5 ⟨rfl, hbq⟩; have hzq := hbq.size; (try simp only [size_alloc', size_setCell', size_drew', size_drewN'] at hzq); (try (refine keep_heap (b := w1.heap.size) hbq ?_ ?_; (first | omega | (simp only [size_alloc', size_setCell', size_drew', size_drewN']; omega)); intro hkq; simp only [heap_alloc_get, heap_setCell_get, heap_drew_get, heap_drewN_get, size_alloc', size_setCell', size_drew', size_drewN', nat_simp1, nat_simp2, nat_simp3, nat_simp4, nat_simp5, if_true, if_false, *] at hkq; obtain ⟨_, _⟩ := blk_facts hkq)); skip)
      have S := S.trans (hbq.mono S.size)
      go_wp2_with fail
      go_ret
      exact ⟨rfl, S⟩
    · have hlt := noteT_len ⟨r, ⟨s, a, o⟩, t, d⟩
      have HR := Lib.hid (fun W h => c_iReadNote (noteT ⟨r, ⟨s, a, o⟩, t, d⟩) W (by omega) h)
      rw [rdN_note hv] at HR
      have HSP := Lib.hid (noteT_space hv)
      rw [hv] at HV
      have heq := fun W => run_eql_nt1 r s a o t d W
      generalize noteT ⟨r, ⟨s, a, o⟩, t, d⟩ = l at *
      clear hv
      go_wp2_with fail
      (go_at_call 12; (with_reducible refine (HI.out _ (HW.out _ S).tab).mono ?_); rintro e w2 ⟨rfl, hbq⟩; have hzq := hbq.size; (try simp only [size_alloc', size_setCell', size_drew', size_drewN'] at hzq); (try (refine keep_heap (b := w1.heap.size) hbq ?_ ?_; (first | omega | (simp only [size_alloc', size_setCell', size_drew', size_drewN']; omega)); intro hkq; simp only [heap_alloc_get, heap_setCell_get, heap_drew_get, heap_drewN_get, size_alloc', size_setCell', size_drew', size_drewN', nat_simp1, nat_simp2, nat_simp3, nat_simp4, nat_simp5, if_true, if_false, *] at hkq; obtain ⟨_, _⟩ := blk_facts hkq)); skip)
      have S := S.trans (hbq.mono S.size)
      go_wp2_with fail
      (go_at_call 10; (with_reducible refine (HS.out _).mono ?_); rintro e w3 ⟨rfl, hbq⟩; have hzq := hbq.size; (try simp only [size_alloc', size_setCell', size_drew', size_drewN'] at hzq); (try (refine keep_heap (b := w1.heap.size) hbq ?_ ?_; (first | omega | (simp only [size_alloc', size_setCell', size_drew', size_drewN']; omega)); intro hkq; simp only [heap_alloc_get, heap_setCell_get, heap_drew_get, heap_drewN_get, size_alloc', size_setCell', size_drew', size_drewN', nat_simp1, nat_simp2, nat_simp3, nat_simp4, nat_simp5, if_true, if_false, *] at hkq; obtain ⟨_, _⟩ := blk_facts hkq)); skip)
      have S := S.trans (hbq.mono S.size)
      go_wp2_with fail
      (go_at_call 14; (with_reducible refine (HV.out _).mono ?_); rintro e w4 ⟨rfl, hbq⟩; have hzq := hbq.size; (try simp only [size_alloc', size_setCell', size_drew', size_drewN'] at hzq); (try (refine keep_heap (b := w1.heap.size) hbq ?_ ?_; (first | omega | (simp only [size_alloc', size_setCell', size_drew', size_drewN']; omega)); intro hkq; simp only [heap_alloc_get, heap_setCell_get, heap_drew_get, heap_drewN_get, size_alloc', size_setCell', size_drew', size_drewN', nat_simp1, nat_simp2, nat_simp3, nat_simp4, nat_simp5, if_true, if_false, *] at hkq; obtain ⟨_, _⟩ := blk_facts hkq)); skip)
      have S := S.trans (hbq.mono S.size)
      go_wp2_with fail
      (go_at_call 16; (with_reducible refine (HR.out _ (HW.out _ S)).mono ?_); rintro e w5 ⟨rfl, hbq⟩; have hzq := hbq.size; (try simp only [size_alloc', size_setCell', size_drew', size_drewN'] at hzq); (try (refine keep_heap (b := w1.heap.size) hbq ?_ ?_; (first | omega | (simp only [size_alloc', size_setCell', size_drew', size_drewN']; omega)); intro hkq; simp only [heap_alloc_get, heap_setCell_get, heap_drew_get, heap_drewN_get, size_alloc', size_setCell', size_drew', size_drewN', nat_simp1, nat_simp2, nat_simp3, nat_simp4, nat_simp5, if_true, if_false, *] at hkq; obtain ⟨_, _⟩ := blk_facts hkq)); skip)
      have S := S.trans (hbq.mono S.size)
      have hz5 : w1.heap.size < w5.heap.size := (Array.getElem?_eq_some_iff.1 (by assumption : w5.heap[w1.heap.size]? = some (.cells #[.bool r, .int .i64 s, .int .i64 a, .int .i64 o, .int .i64 t, .bool d] 29 (0, 0)))).1
      go_wp2_with fail
      go_loop [7] (fun s7 => ∃ k : Nat, k ≤ l.length ∧ s7 = .int .i64 k) (fun s7 => l.length - (intOf s7).toNat)
      case atStart => exact ⟨0, Nat.zero_le _, rfl⟩
      case round =>
        obtain ⟨k, hk, rfl⟩ := hrel
        by_cases hlt : k < l.length
        · have hlt' : (k : Int) < (l.length : Int) := by omega
          have hgk : ∀ h, (ByteArray.mk l.toArray)[k]'h = l.getD k 0 := fun h => mk_get l k h
          have hc : ¬ l.getD k 0 = 32 := by
            rw [List.getD_eq_getElem?_getD, List.getElem?_eq_getElem hlt]
            exact HSP.out _ (List.getElem_mem hlt)
          generalize l.getD k 0 = c at *
          have hc' : ¬ (c.toNat : Int) = 32 := u8_ne hc
          go_wp2_with fail
          go_round
          case rel => exact ⟨k + 1, by omega, by go_num⟩
          case measure => simp [intOf]; omega
        · have hlt' : ¬ (k : Int) < (l.length : Int) := by omega
          go_wp2_with fail
          go_ret
          exact ⟨rfl, by (repeat' (first | (with_reducible exact Below.refl _ _) | (with_reducible refine Below.setCell ?_ ?_ _) | (with_reducible refine Below.alloc ?_ ?_ _) | (with_reducible refine Below.drew ?_) | (with_reducible refine below_drewN ?_ _) | (with_reducible refine Below.trans ?_ (Below.mono (by with_reducible assumption) ?_)) | omega | (simp only [size_alloc', size_setCell', size_drew', size_drewN'] at *; omega)))⟩
  · go_enter Tryd.func4, Tryd.ntmps4
    go_wp2_with fail
    go_ret
    exact ⟨rfl, Below.refl _ _⟩
end Go.Proofs.YtaikcpidijekpaaDoor
