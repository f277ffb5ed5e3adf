/- The reference's AddInterval. Conditions: none. -/
import Derived.Test.YtlhekgjckjcbhaaN4
import Derived.Test.YtlhekgjckjcbhaaQA
namespace Go.Proofs.Ytlhekgjckjcbhaa
open Go.RowKit
set_option linter.unusedSimpArgs false
set_option linter.unusedVariables false
set_option maxHeartbeats 16000000

theorem wp_region_more_alloc' {P : Program} {id : Nat} {Q : Exit → Act → World → Prop} {a : Act} {w : World} {l : List Oper} (al : Nat) (oa : Oper) (z : Obj) (hm : P.follows .mixedOrders = true) (hB : checkA .any l.toArray al = true)
    (hoa : l[al]? = some oa) (hafter : oa.after = #[]) (hrun : ∀ (K : Act → World → Prop) (a : Act) (W : World), K (a.put oa.dst (.pointer (some ⟨W.heap.size, 0, none⟩))) (W.alloc z) → wpOp P l.toArray Q al K a W)
    (hds : headOk (l.take al) a.tmps.size = true) (h : ∃ af, (∀ W0, (∃ x, W0 = more w x) → wpQuiet P l.toArray (fun w' => ∃ x, w' = more W0 x) (fun a' => a' = af) (l.take al) a) ∧
      (∀ W b, (∃ x, W = more w x) → w.heap.size ≤ b → W.heap[b]? = some z → wpList P l.toArray Q (l.drop (al + 1)) (af.put oa.dst (.pointer (some ⟨b, 0, none⟩))) W)) : (Code.region id l.toArray true).wp P Q a w := by
  obtain ⟨af, h1, h2⟩ := h
  exact wp_region_more_alloc al af oa z hm hB hoa hafter hrun hds h1 h2
theorem alloc_rule {W : World} {b : Nat} {arr : Array Value} {T : TypeId} (h : W.heap[b]? = some (.cells arr T (0, 0))) : ∀ (x : Obj) o, (W.alloc x).cell? ⟨b, o, none⟩ = arr[o]? :=
  fun x o => cell_of_row (W.alloc x) b o arr T (0, 0) (below_heap (bel1 W x) h)
theorem c_sAddInterval (p : Pit) (i : Iv) (w : World) :
    Calls Try.prog 73 #[p.v, i.v] w fun e w' => e = .returned (addVal (addIv p i)) ∧ Below w.heap.size w w' := by
  obtain ⟨s, a, o⟩ := p
  obtain ⟨ps, ph⟩ := i
  cases h1 : pitchValid ⟨s, a, o⟩
  · have HV := Lib.hid (addIv_no (p := ⟨s, a, o⟩) (i := ⟨ps, ph⟩) (by simp [h1]))
    go_enter Try.func73, Try.ntmps73
    go_wp2_with fail
    (go_at_call 42; (with_reducible refine (c_sPitchValid ⟨s, a, o⟩ _).mono ?_); rintro e wq ⟨rfl, hbq⟩; have hzq := hbq.size; (try simp only [size_alloc', size_setCell', size_drew', size_drewN'] at hzq); (try (refine keep_heap (b := w.heap.size) hbq ?_ ?_; (first | omega | (simp only [size_alloc', size_setCell', size_drew', size_drewN']; omega)); intro hkq; simp only [heap_alloc_get, heap_setCell_get, heap_drew_get, heap_drewN_get, size_alloc', size_setCell', size_drew', size_drewN', nat_simp1, nat_simp2, nat_simp3, nat_simp4, nat_simp5, if_true, if_false, *] at hkq; obtain ⟨_, _⟩ := blk_facts hkq)); (try (refine keep_heap (b := w.heap.size + 1) hbq ?_ ?_; (first | omega | (simp only [size_alloc', size_setCell', size_drew', size_drewN']; omega)); intro hkq; simp only [heap_alloc_get, heap_setCell_get, heap_drew_get, heap_drewN_get, size_alloc', size_setCell', size_drew', size_drewN', nat_simp1, nat_simp2, nat_simp3, nat_simp4, nat_simp5, if_true, if_false, *] at hkq; obtain ⟨_, _⟩ := blk_facts hkq)); (try (refine keep_heap (b := w.heap.size + 1 + 1) hbq ?_ ?_; (first | omega | (simp only [size_alloc', size_setCell', size_drew', size_drewN']; omega)); intro hkq; simp only [heap_alloc_get, heap_setCell_get, heap_drew_get, heap_drewN_get, size_alloc', size_setCell', size_drew', size_drewN', nat_simp1, nat_simp2, nat_simp3, nat_simp4, nat_simp5, if_true, if_false, *] at hkq; obtain ⟨_, _⟩ := blk_facts hkq)); skip)
    go_wp2
    exact bodyPost_ret (v := .tuple #[.agg #[.int .i64 0, .int .i64 0, .int .i64 0], .bool false]) (by simp [results, Try.results73, go_sem, *]) rfl ⟨by rw [HV.out], by (repeat' (first | (with_reducible exact Below.refl _ _) | (with_reducible refine Below.setCell ?_ ?_ _) | (with_reducible refine Below.alloc ?_ ?_ _) | (with_reducible refine Below.drew ?_) | (with_reducible refine below_drewN ?_ _) | (with_reducible refine Below.trans ?_ (Below.mono (by with_reducible assumption) ?_)) | omega | (simp only [size_alloc', size_setCell', size_drew', size_drewN'] at *; omega)))⟩
  · cases h2 : ivValid ⟨ps, ph⟩
    · have HV := Lib.hid (addIv_no (p := ⟨s, a, o⟩) (i := ⟨ps, ph⟩) (by simp [h2]))
      go_enter Try.func73, Try.ntmps73
      go_wp2_with fail
      (go_at_call 42; (with_reducible refine (c_sPitchValid ⟨s, a, o⟩ _).mono ?_); rintro e wq ⟨rfl, hbq⟩; have hzq := hbq.size; (try simp only [size_alloc', size_setCell', size_drew', size_drewN'] at hzq); (try (refine keep_heap (b := w.heap.size) hbq ?_ ?_; (first | omega | (simp only [size_alloc', size_setCell', size_drew', size_drewN']; omega)); intro hkq; simp only [heap_alloc_get, heap_setCell_get, heap_drew_get, heap_drewN_get, size_alloc', size_setCell', size_drew', size_drewN', nat_simp1, nat_simp2, nat_simp3, nat_simp4, nat_simp5, if_true, if_false, *] at hkq; obtain ⟨_, _⟩ := blk_facts hkq)); (try (refine keep_heap (b := w.heap.size + 1) hbq ?_ ?_; (first | omega | (simp only [size_alloc', size_setCell', size_drew', size_drewN']; omega)); intro hkq; simp only [heap_alloc_get, heap_setCell_get, heap_drew_get, heap_drewN_get, size_alloc', size_setCell', size_drew', size_drewN', nat_simp1, nat_simp2, nat_simp3, nat_simp4, nat_simp5, if_true, if_false, *] at hkq; obtain ⟨_, _⟩ := blk_facts hkq)); (try (refine keep_heap (b := w.heap.size + 1 + 1) hbq ?_ ?_; (first | omega | (simp only [size_alloc', size_setCell', size_drew', size_drewN']; omega)); intro hkq; simp only [heap_alloc_get, heap_setCell_get, heap_drew_get, heap_drewN_get, size_alloc', size_setCell', size_drew', size_drewN', nat_simp1, nat_simp2, nat_simp3, nat_simp4, nat_simp5, if_true, if_false, *] at hkq; obtain ⟨_, _⟩ := blk_facts hkq)); skip)
      go_wp2_with fail
      (go_at_call 78; (with_reducible refine (c_sIntervalValid ps ph _).mono ?_); rintro e w2 ⟨rfl, hbq⟩; have hzq := hbq.size; (try simp only [size_alloc', size_setCell', size_drew', size_drewN'] at hzq); (try (refine keep_heap (b := w.heap.size) hbq ?_ ?_; (first | omega | (simp only [size_alloc', size_setCell', size_drew', size_drewN']; omega)); intro hkq; simp only [heap_alloc_get, heap_setCell_get, heap_drew_get, heap_drewN_get, size_alloc', size_setCell', size_drew', size_drewN', nat_simp1, nat_simp2, nat_simp3, nat_simp4, nat_simp5, if_true, if_false, *] at hkq; obtain ⟨_, _⟩ := blk_facts hkq)); (try (refine keep_heap (b := w.heap.size + 1) hbq ?_ ?_; (first | omega | (simp only [size_alloc', size_setCell', size_drew', size_drewN']; omega)); intro hkq; simp only [heap_alloc_get, heap_setCell_get, heap_drew_get, heap_drewN_get, size_alloc', size_setCell', size_drew', size_drewN', nat_simp1, nat_simp2, nat_simp3, nat_simp4, nat_simp5, if_true, if_false, *] at hkq; obtain ⟨_, _⟩ := blk_facts hkq)); (try (refine keep_heap (b := w.heap.size + 1 + 1) hbq ?_ ?_; (first | omega | (simp only [size_alloc', size_setCell', size_drew', size_drewN']; omega)); intro hkq; simp only [heap_alloc_get, heap_setCell_get, heap_drew_get, heap_drewN_get, size_alloc', size_setCell', size_drew', size_drewN', nat_simp1, nat_simp2, nat_simp3, nat_simp4, nat_simp5, if_true, if_false, *] at hkq; obtain ⟨_, _⟩ := blk_facts hkq)); skip)
      go_wp2
      exact bodyPost_ret (v := .tuple #[.agg #[.int .i64 0, .int .i64 0, .int .i64 0], .bool false]) (by simp [results, Try.results73, go_sem, *]) rfl ⟨by rw [HV.out], by (repeat' (first | (with_reducible exact Below.refl _ _) | (with_reducible refine Below.setCell ?_ ?_ _) | (with_reducible refine Below.alloc ?_ ?_ _) | (with_reducible refine Below.drew ?_) | (with_reducible refine below_drewN ?_ _) | (with_reducible refine Below.trans ?_ (Below.mono (by with_reducible assumption) ?_)) | omega | (simp only [size_alloc', size_setCell', size_drew', size_drewN'] at *; omega)))⟩
    · have HY := Lib.hid (addIv_yes h1 h2)
      obtain ⟨⟨b1, b2⟩, ⟨b3, b4⟩⟩ := ivValid_bd h2
      obtain ⟨p1, p2⟩ := pitPlace_bd ⟨s, a, o⟩
      obtain ⟨k1, k2⟩ := keyOf_bd ⟨s, a, o⟩
      dsimp only at b1 b2 b3 b4 HY
      go_enter Try.func73, Try.ntmps73
      go_wp2_with fail
      (go_at_call 42; (with_reducible refine (c_sPitchValid ⟨s, a, o⟩ _).mono ?_); rintro e wq ⟨rfl, hbq⟩; have hzq := hbq.size; (try simp only [size_alloc', size_setCell', size_drew', size_drewN'] at hzq); (try (refine keep_heap (b := w.heap.size) hbq ?_ ?_; (first | omega | (simp only [size_alloc', size_setCell', size_drew', size_drewN']; omega)); intro hkq; simp only [heap_alloc_get, heap_setCell_get, heap_drew_get, heap_drewN_get, size_alloc', size_setCell', size_drew', size_drewN', nat_simp1, nat_simp2, nat_simp3, nat_simp4, nat_simp5, if_true, if_false, *] at hkq; obtain ⟨_, _⟩ := blk_facts hkq)); (try (refine keep_heap (b := w.heap.size + 1) hbq ?_ ?_; (first | omega | (simp only [size_alloc', size_setCell', size_drew', size_drewN']; omega)); intro hkq; simp only [heap_alloc_get, heap_setCell_get, heap_drew_get, heap_drewN_get, size_alloc', size_setCell', size_drew', size_drewN', nat_simp1, nat_simp2, nat_simp3, nat_simp4, nat_simp5, if_true, if_false, *] at hkq; obtain ⟨_, _⟩ := blk_facts hkq)); (try (refine keep_heap (b := w.heap.size + 1 + 1) hbq ?_ ?_; (first | omega | (simp only [size_alloc', size_setCell', size_drew', size_drewN']; omega)); intro hkq; simp only [heap_alloc_get, heap_setCell_get, heap_drew_get, heap_drewN_get, size_alloc', size_setCell', size_drew', size_drewN', nat_simp1, nat_simp2, nat_simp3, nat_simp4, nat_simp5, if_true, if_false, *] at hkq; obtain ⟨_, _⟩ := blk_facts hkq)); skip)
      go_wp2_with fail
      (go_at_call 78; (with_reducible refine (c_sIntervalValid ps ph _).mono ?_); rintro e w2 ⟨rfl, hbq⟩; have hzq := hbq.size; (try simp only [size_alloc', size_setCell', size_drew', size_drewN'] at hzq); (try (refine keep_heap (b := w.heap.size) hbq ?_ ?_; (first | omega | (simp only [size_alloc', size_setCell', size_drew', size_drewN']; omega)); intro hkq; simp only [heap_alloc_get, heap_setCell_get, heap_drew_get, heap_drewN_get, size_alloc', size_setCell', size_drew', size_drewN', nat_simp1, nat_simp2, nat_simp3, nat_simp4, nat_simp5, if_true, if_false, *] at hkq; obtain ⟨_, _⟩ := blk_facts hkq)); (try (refine keep_heap (b := w.heap.size + 1) hbq ?_ ?_; (first | omega | (simp only [size_alloc', size_setCell', size_drew', size_drewN']; omega)); intro hkq; simp only [heap_alloc_get, heap_setCell_get, heap_drew_get, heap_drewN_get, size_alloc', size_setCell', size_drew', size_drewN', nat_simp1, nat_simp2, nat_simp3, nat_simp4, nat_simp5, if_true, if_false, *] at hkq; obtain ⟨_, _⟩ := blk_facts hkq)); (try (refine keep_heap (b := w.heap.size + 1 + 1) hbq ?_ ?_; (first | omega | (simp only [size_alloc', size_setCell', size_drew', size_drewN']; omega)); intro hkq; simp only [heap_alloc_get, heap_setCell_get, heap_drew_get, heap_drewN_get, size_alloc', size_setCell', size_drew', size_drewN', nat_simp1, nat_simp2, nat_simp3, nat_simp4, nat_simp5, if_true, if_false, *] at hkq; obtain ⟨_, _⟩ := blk_facts hkq)); skip)
      go_wp2_with fail
      (refine wp_region_more_lit (by kernel_rfl) (by kernel_rfl) ?_; (repeat (go_big_quiet_step ((go_at_call 79; with_reducible exact Calls.more_of (c_sPitchPlace ⟨s, a, o⟩ _))))); refine wpQuiet_nil ?_; intro wq hwq; have hbq := below_of_more hwq; clear hwq; have hzq := hbq.size; (try simp only [size_alloc', size_setCell', size_drew', size_drewN'] at hzq); (try (refine keep_heap (b := w.heap.size) hbq ?_ ?_; (first | omega | (simp only [size_alloc', size_setCell', size_drew', size_drewN']; omega)); intro hkq; simp only [heap_alloc_get, heap_setCell_get, heap_drew_get, heap_drewN_get, size_alloc', size_setCell', size_drew', size_drewN', nat_simp1, nat_simp2, nat_simp3, nat_simp4, nat_simp5, if_true, if_false, *] at hkq; obtain ⟨_, _⟩ := blk_facts hkq)); (try (refine keep_heap (b := w.heap.size + 1) hbq ?_ ?_; (first | omega | (simp only [size_alloc', size_setCell', size_drew', size_drewN']; omega)); intro hkq; simp only [heap_alloc_get, heap_setCell_get, heap_drew_get, heap_drewN_get, size_alloc', size_setCell', size_drew', size_drewN', nat_simp1, nat_simp2, nat_simp3, nat_simp4, nat_simp5, if_true, if_false, *] at hkq; obtain ⟨_, _⟩ := blk_facts hkq)); (try (refine keep_heap (b := w.heap.size + 1 + 1) hbq ?_ ?_; (first | omega | (simp only [size_alloc', size_setCell', size_drew', size_drewN']; omega)); intro hkq; simp only [heap_alloc_get, heap_setCell_get, heap_drew_get, heap_drewN_get, size_alloc', size_setCell', size_drew', size_drewN', nat_simp1, nat_simp2, nat_simp3, nat_simp4, nat_simp5, if_true, if_false, *] at hkq; obtain ⟨_, _⟩ := blk_facts hkq)); skip)
      by_cases hneg : pitPlace ⟨s, a, o⟩ + ps < 0
      · have HN := Lib.hid (pitchW_neg (k := keyOf ⟨s, a, o⟩ + ph) hneg)
        go_wp2
        exact bodyPost_ret (v := .tuple #[.agg #[.int .i64 0, .int .i64 0, .int .i64 0], .bool false]) (by simp [results, Try.results73, go_sem, *]) rfl ⟨by rw [HY.out, HN.out], by (repeat' (first | (with_reducible exact Below.refl _ _) | (with_reducible refine Below.setCell ?_ ?_ _) | (with_reducible refine Below.alloc ?_ ?_ _) | (with_reducible refine Below.drew ?_) | (with_reducible refine below_drewN ?_ _) | (with_reducible refine Below.trans ?_ (Below.mono (by with_reducible assumption) ?_)) | omega | (simp only [size_alloc', size_setCell', size_drew', size_drewN'] at *; omega)))⟩
      · obtain ⟨pl, hpl⟩ : ∃ pl, pitPlace ⟨s, a, o⟩ + ps = pl := ⟨_, rfl⟩
        have hp0 : 0 ≤ pl := by omega
        have hp1 : pl ≤ 1000 := by omega
        obtain ⟨n1, n2⟩ := nat_bd hp0 hp1
        rw [hpl] at hneg HY
        have HPL := Lib.hid hpl
        clear hpl
        rw [HPL.out]
        go_wp2_with fail
        have hn1 : (w.heap.size = wq.heap.size) = False := eq_false (by omega)
        refine wp_region_more_alloc' 13 _ (.cells #[.int .i64 0, .int .i64 0, .int .i64 0] 29 (0, 0)) (by kernel_rfl) (by kernel_rfl) rfl rfl ?hrun (by kernel_rfl) ?h
        case hrun =>
          intro K a W hK
          unfold wpOp
          simp [go_sem]
          exact .inl hK
        case h =>
          apply Exists.intro
          refine ⟨?h1, ?h2⟩
          case h1 =>
            rintro W0 ⟨y, rfl⟩
            simp only [List.take_succ_cons, List.take_zero]
            repeat (go_big_quiet_step (first | (go_at_call 43; with_reducible exact Calls.more_of (c_sPitchKey ⟨s, a, o⟩ _)) | (go_at_call 71; with_reducible exact Calls.more_of (c_l1Natural _ _ hp0 (by omega)))))
            exact wpQuiet_nil rfl
          case h2 =>
            intro w4 b7 hw4 hb7 hz7
            have hb4 := below_of_more hw4
            have hz4 := hb4.size
            clear hw4
            have hb7l : b7 < w4.heap.size := (Array.getElem?_eq_some_iff.1 hz7).1
            have h40 := below_heap hb4 (show wq.heap[w.heap.size]? = some (.cells #[.int .i64 s, .int .i64 a, .int .i64 o] 29 (0, 0)) by assumption)
            have h41 := below_heap hb4 (show wq.heap[w.heap.size + 1]? = some (.cells #[.int .i64 ps, .int .i64 ph] 98 (0, 0)) by assumption)
            have h42 := below_heap hb4 (show wq.heap[w.heap.size + 1 + 1]? = some (.cells #[.int .i64 0, .int .i64 0, .int .i64 0] 29 (0, 0)) by assumption)
            obtain ⟨_, _⟩ := blk_facts hz7
            obtain ⟨_, _⟩ := blk_facts h42
            simp only [List.drop_succ_cons, List.drop_zero]
            have hn7 : (w.heap.size + 1 + 1 = b7) = False := eq_false (by omega)
            have hn8 : (b7 = w.heap.size + 1 + 1) = False := eq_false (by omega)
            go_wp2_with fail
            (go_at_call 42; (with_reducible refine (c_sPitchValid ⟨pl % 7, keyOf ⟨s, a, o⟩ + ph - natural pl, pl / 7⟩ _).mono ?_); rintro e w5 ⟨rfl, hbq⟩; have hzq := hbq.size; (try simp only [size_alloc', size_setCell', size_drew', size_drewN'] at hzq); (try (refine keep_heap (b := w.heap.size + 1 + 1) hbq ?_ ?_; (first | omega | (simp only [size_alloc', size_setCell', size_drew', size_drewN']; omega)); intro hkq; simp only [heap_alloc_get, heap_setCell_get, heap_drew_get, heap_drewN_get, size_alloc', size_setCell', size_drew', size_drewN', nat_simp1, nat_simp2, nat_simp3, nat_simp4, nat_simp5, if_true, if_false, *] at hkq; obtain ⟨_, _⟩ := blk_facts hkq)); (try (refine keep_heap (b := b7) hbq ?_ ?_; (first | omega | (simp only [size_alloc', size_setCell', size_drew', size_drewN']; omega)); intro hkq; simp only [heap_alloc_get, heap_setCell_get, heap_drew_get, heap_drewN_get, size_alloc', size_setCell', size_drew', size_drewN', nat_simp1, nat_simp2, nat_simp3, nat_simp4, nat_simp5, if_true, if_false, *] at hkq; obtain ⟨_, _⟩ := blk_facts hkq)); skip)
            cases hv : pitchValid ⟨pl % 7, keyOf ⟨s, a, o⟩ + ph - natural pl, pl / 7⟩
            · have HN := Lib.hid (pitchW_no (by omega) hv)
              go_wp2
              exact bodyPost_ret (v := .tuple #[.agg #[.int .i64 0, .int .i64 0, .int .i64 0], .bool false]) (by simp [results, Try.results73, go_sem, *]) rfl ⟨by rw [HY.out, HN.out], by (repeat' (first | (with_reducible exact Below.refl _ _) | (with_reducible refine Below.setCell ?_ ?_ _) | (with_reducible refine Below.alloc ?_ ?_ _) | (with_reducible refine Below.drew ?_) | (with_reducible refine below_drewN ?_ _) | (with_reducible refine Below.trans ?_ (Below.mono (by with_reducible assumption) ?_)) | omega | (simp only [size_alloc', size_setCell', size_drew', size_drewN'] at *; omega)))⟩
            · have HN := Lib.hid (pitchW_yes (by omega) hv)
              go_wp2
              exact bodyPost_ret (v := .tuple #[.agg #[.int .i64 (pl % 7), .int .i64 (keyOf ⟨s, a, o⟩ + ph - natural pl), .int .i64 (pl / 7)], .bool true]) (by simp [results, Try.results73, go_sem, *]) rfl ⟨by rw [HY.out, HN.out], by (repeat' (first | (with_reducible exact Below.refl _ _) | (with_reducible refine Below.setCell ?_ ?_ _) | (with_reducible refine Below.alloc ?_ ?_ _) | (with_reducible refine Below.drew ?_) | (with_reducible refine below_drewN ?_ _) | (with_reducible refine Below.trans ?_ (Below.mono (by with_reducible assumption) ?_)) | omega | (simp only [size_alloc', size_setCell', size_drew', size_drewN'] at *; omega)))⟩
end Go.Proofs.Ytlhekgjckjcbhaa
