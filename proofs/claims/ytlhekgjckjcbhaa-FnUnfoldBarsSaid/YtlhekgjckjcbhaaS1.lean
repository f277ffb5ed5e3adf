/- One section: copies; validity on both sides. Conditions: lengths up to 2^20 where copied. -/
import Derived.Test.YtlhekgjckjcbhaaS0
namespace Go.Proofs.Ytlhekgjckjcbhaa
open Go.RowKit
set_option linter.unusedSimpArgs false
set_option linter.unusedVariables false
set_option maxHeartbeats 4000000

theorem own_mono {w : World} {base base' : Nat} {e : TypeId} {size : Nat} {v : Value} {n : Nat} {xs : List Value} (h : w.ownsRow base e size v n xs) (hb : base' ≤ base) : w.ownsRow base' e size v n xs :=
  ⟨h.1, h.2.imp id (fun ⟨g, cap, cur, e1, e2, r⟩ => ⟨g, cap, cur, e1, Nat.le_trans hb e2, r⟩)⟩
def MadeSec (b t : Int) (l : List Int) (w : World) (e : Ending) (w' : World) : Prop :=
  ∃ v, e = .returned (.agg #[.int .i64 b, .int .i64 t, v]) ∧ w'.ownsRow w.heap.size 3 1 v l.length (intCells l) ∧ Below w.heap.size w w'
theorem c_toSection (b t : Int) (v : Value) (l : List Int) (w : World) (h : Rd w v 1 l.length (intCells l)) (hn : l.length ≤ 1048576) :
    Calls Try.prog 59 #[.agg #[.int .i64 b, .int .i64 t, v]] w (MadeSec b t l w) := by
  have h' := Lib.hid h
  obtain ⟨_, A, c, rfl, hnc, hcm, hA⟩ := h
  clear hA
  go_enter Try.func59, Try.ntmps59
  go_wp2_with fail
  (go_at_call 76; (with_reducible refine (c_toIntS _ l _ (((h'.out.alloc _).alloc _).alloc _) hn).mono ?_); rintro e wq ⟨v2, rfl, hown, hbq⟩; have hzq := hbq.size; (try simp only [size_alloc', size_setCell', size_drew', size_drewN'] at hzq); (try (refine keep_heap (b := w.heap.size) hbq ?_ ?_; (first | omega | (simp only [size_alloc', size_setCell', size_drew', size_drewN']; omega)); intro hkq; simp only [heap_alloc_get, heap_setCell_get, heap_drew_get, heap_drewN_get, size_alloc', size_setCell', size_drew', size_drewN', nat_simp1, nat_simp2, nat_simp3, nat_simp4, nat_simp5, if_true, if_false, *] at hkq; obtain ⟨_, _⟩ := blk_facts hkq)); (try (refine keep_heap (b := w.heap.size + 1) hbq ?_ ?_; (first | omega | (simp only [size_alloc', size_setCell', size_drew', size_drewN']; omega)); intro hkq; simp only [heap_alloc_get, heap_setCell_get, heap_drew_get, heap_drewN_get, size_alloc', size_setCell', size_drew', size_drewN', nat_simp1, nat_simp2, nat_simp3, nat_simp4, nat_simp5, if_true, if_false, *] at hkq; obtain ⟨_, _⟩ := blk_facts hkq)); (try (refine keep_heap (b := w.heap.size + 1 + 1) hbq ?_ ?_; (first | omega | (simp only [size_alloc', size_setCell', size_drew', size_drewN']; omega)); intro hkq; simp only [heap_alloc_get, heap_setCell_get, heap_drew_get, heap_drewN_get, size_alloc', size_setCell', size_drew', size_drewN', nat_simp1, nat_simp2, nat_simp3, nat_simp4, nat_simp5, if_true, if_false, *] at hkq; obtain ⟨_, _⟩ := blk_facts hkq)); skip)
  have hO := Lib.hid hown
  have hrr := Rd.of_own hown
  clear hown
  obtain ⟨_, A2, c2, rfl, hn2, hm2, -⟩ := hrr
  go_wp2_with fail
  (refine bodyPost_ret (results_cell_row rfl _ _ (w.heap.size + 1) 43 #[.int .i64 b, .int .i64 t, .slice A2 l.length c2] (0, 0) _ rfl ?_ Try.underlying43 rfl (by kernel_rfl)) rfl ?_)
  · (simp only [heap_alloc_get, heap_setCell_get, heap_drew_get, heap_drewN_get, size_alloc', size_setCell', size_drew', size_drewN', nat_simp1, nat_simp2, nat_simp3, nat_simp4, nat_simp5, if_true, if_false, Option.map_some, *]; first | done | rfl | simp)
  · refine ⟨_, rfl, ?_, by (repeat' (first | (with_reducible exact Below.refl _ _) | (with_reducible refine Below.setCell ?_ ?_ _) | (with_reducible refine Below.alloc ?_ ?_ _) | (with_reducible refine Below.drew ?_) | (with_reducible refine below_drewN ?_ _) | (with_reducible refine Below.trans ?_ (Below.mono (by with_reducible assumption) ?_)) | omega | (simp only [size_alloc', size_setCell', size_drew', size_drewN'] at *; omega)))⟩
    have hO' := hO.out
    simp only [size_alloc', size_setCell'] at hO'
    refine own_mono (base := w.heap.size + 1 + 1 + 1) ?_ (by omega)
    repeat' (with_reducible refine ownsRow_setCell_below ?_ ?_ _)
    all_goals first | exact hO' | (show w.heap.size + 1 < w.heap.size + 1 + 1 + 1; omega) | (show w.heap.size + 1 + 1 < w.heap.size + 1 + 1 + 1; omega)
theorem c_sSectionValid (b t : Int) (v : Value) (l : List Int) (w : World) (h : Rd w v 1 l.length (intCells l)) :
    Calls Try.prog 23 #[.agg #[.int .i64 b, .int .i64 t, v]] w fun e w' => e = .returned (.bool (secOk b t l)) ∧ Below w.heap.size w w' := by
  obtain ⟨_, A, c, rfl, hnc, hcm, hA⟩ := h
  unfold maxLen at hcm
  go_enter Try.func23, Try.ntmps23
  go_wp2
  go_loopw [3] (fun i wr => ∃ k : Nat, k ≤ l.length ∧ i = .int .i64 k ∧ Below w.heap.size w wr ∧ wr.heap[w.heap.size]? = some (.cells #[.int .i64 b, .int .i64 t, .slice A l.length c] 43 (0, 0)) ∧ ∀ i (h : i < l.length), i < k → inB l[i] 0 12 = true) (fun i _ => l.length - (intOf i).toNat)
  case atStart => exact ⟨0, Nat.zero_le _, rfl, by (repeat' (first | (with_reducible exact Below.refl _ _) | (with_reducible refine Below.setCell ?_ ?_ _) | (with_reducible refine Below.alloc ?_ ?_ _) | (with_reducible refine Below.drew ?_) | (with_reducible refine below_drewN ?_ _) | (with_reducible refine Below.trans ?_ (Below.mono (by with_reducible assumption) ?_)) | omega | (simp only [size_alloc', size_setCell', size_drew', size_drewN'] at *; omega))), heap_alloc_new w _, fun i _ hi => absurd hi (by omega)⟩
  case round =>
    obtain ⟨k, hk, rfl, hbl, hh, hok⟩ := hrel
    have HOK := Lib.hid hok
    clear hok
    obtain ⟨p1, p2⟩ := blk_facts hh
    have HH := Lib.hid hh
    clear hh
    by_cases hlt : k < l.length
    · obtain ⟨bb, off, rfl, hcc⟩ := hA (by omega)
      have p0 := int_at (rd_later hbl hcc) k hlt
      have HN := Lib.hid (fun hb => all_no (l := l) (k := k) hlt hb b t)
      have HS := Lib.hid (show inB l[k] 0 12 = true → ∀ i (h : i < l.length), i < k + 1 → inB l[i] 0 12 = true by
        intro he i h1 hi
        rcases Nat.lt_succ_iff_lt_or_eq.1 hi with h3 | rfl
        · exact HOK.out i h1 h3
        · exact he)
      generalize l[k] = x at *
      clear hA hcc
      cases hin : inB x 0 12
      · have HF := Lib.hid (HN.out hin)
        go_wp2_with (go_at_call 44; (with_reducible refine (c_l1In _ _ _ _).mono ?_); rintro e wq ⟨rfl, rfl⟩)
        go_ret
        exact ⟨ret_bool HF.out.symm, by (repeat' (first | (with_reducible exact Below.refl _ _) | (with_reducible refine Below.setCell ?_ ?_ _) | (with_reducible refine Below.alloc ?_ ?_ _) | (with_reducible refine Below.drew ?_) | (with_reducible refine below_drewN ?_ _) | (with_reducible refine Below.trans ?_ (Below.mono (by with_reducible assumption) ?_)) | omega | (simp only [size_alloc', size_setCell', size_drew', size_drewN'] at *; omega)))⟩
      · have HF := Lib.hid (HS.out hin)
        go_wp2_with (go_at_call 44; (with_reducible refine (c_l1In _ _ _ _).mono ?_); rintro e wq ⟨rfl, rfl⟩)
        go_roundw
        case rel => exact ⟨k + 1, by omega, by go_num, by (repeat' (first | (with_reducible exact Below.refl _ _) | (with_reducible refine Below.setCell ?_ ?_ _) | (with_reducible refine Below.alloc ?_ ?_ _) | (with_reducible refine Below.drew ?_) | (with_reducible refine below_drewN ?_ _) | (with_reducible refine Below.trans ?_ (Below.mono (by with_reducible assumption) ?_)) | omega | (simp only [size_alloc', size_setCell', size_drew', size_drewN'] at *; omega))), HH.out, HF.out⟩
        case measure => simp [intOf]; omega
    · have HP := Lib.hid (all_yes (l := l) (fun i h => HOK.out i h (by omega)) b t)
      clear hA
      cases h1 : inB b 0 12
      · go_wp2_with (go_at_call 44; (with_reducible refine (c_l1In _ _ _ _).mono ?_); rintro e wq ⟨rfl, rfl⟩)
        go_ret
        exact ⟨ret_bool (by rw [HP.out]; simp [endOk, h1]), by (repeat' (first | (with_reducible exact Below.refl _ _) | (with_reducible refine Below.setCell ?_ ?_ _) | (with_reducible refine Below.alloc ?_ ?_ _) | (with_reducible refine Below.drew ?_) | (with_reducible refine below_drewN ?_ _) | (with_reducible refine Below.trans ?_ (Below.mono (by with_reducible assumption) ?_)) | omega | (simp only [size_alloc', size_setCell', size_drew', size_drewN'] at *; omega)))⟩
      · cases h2 : inB t 1 4
        · go_wp2_with (go_at_call 44; (with_reducible refine (c_l1In _ _ _ _).mono ?_); rintro e wq ⟨rfl, rfl⟩)
          go_ret
          exact ⟨ret_bool (by rw [HP.out]; simp [endOk, h2]), by (repeat' (first | (with_reducible exact Below.refl _ _) | (with_reducible refine Below.setCell ?_ ?_ _) | (with_reducible refine Below.alloc ?_ ?_ _) | (with_reducible refine Below.drew ?_) | (with_reducible refine below_drewN ?_ _) | (with_reducible refine Below.trans ?_ (Below.mono (by with_reducible assumption) ?_)) | omega | (simp only [size_alloc', size_setCell', size_drew', size_drewN'] at *; omega)))⟩
        · by_cases h0 : l.length = 0
          · have h3 : ((l.length : Int) == 0) = true := by rw [h0]; rfl
            go_wp2_with (go_at_call 44; (with_reducible refine (c_l1In _ _ _ _).mono ?_); rintro e wq ⟨rfl, rfl⟩)
            go_ret
            exact ⟨ret_bool (by rw [HP.out]; simp [endOk, h1, h2, h0]), by (repeat' (first | (with_reducible exact Below.refl _ _) | (with_reducible refine Below.setCell ?_ ?_ _) | (with_reducible refine Below.alloc ?_ ?_ _) | (with_reducible refine Below.drew ?_) | (with_reducible refine below_drewN ?_ _) | (with_reducible refine Below.trans ?_ (Below.mono (by with_reducible assumption) ?_)) | omega | (simp only [size_alloc', size_setCell', size_drew', size_drewN'] at *; omega)))⟩
          · have h3 : ((l.length : Int) == 0) = false := by rw [beq_eq_false_iff_ne]; omega
            have h4 : (l.length == 0) = false := by simpa using h0
            go_wp2_with (go_at_call 44; (with_reducible refine (c_l1In _ _ _ _).mono ?_); rintro e wq ⟨rfl, rfl⟩)
            go_ret
            exact ⟨ret_bool (by rw [HP.out]; simp [endOk, h1, h2, h4]), by (repeat' (first | (with_reducible exact Below.refl _ _) | (with_reducible refine Below.setCell ?_ ?_ _) | (with_reducible refine Below.alloc ?_ ?_ _) | (with_reducible refine Below.drew ?_) | (with_reducible refine below_drewN ?_ _) | (with_reducible refine Below.trans ?_ (Below.mono (by with_reducible assumption) ?_)) | omega | (simp only [size_alloc', size_setCell', size_drew', size_drewN'] at *; omega)))⟩
theorem c_SectionValid (b t : Int) (v : Value) (l : List Int) (w : World) (h : Rd w v 1 l.length (intCells l)) :
    Calls Try.prog 22 #[.agg #[.int .i64 b, .int .i64 t, v]] w fun e w' => e = .returned (.bool (secOk b t l)) ∧ Below w.heap.size w w' := by
  obtain ⟨_, A, c, rfl, hnc, hcm, hA⟩ := h
  unfold maxLen at hcm
  cases h1 : inB b 0 12
  · have HP := Lib.hid (show secOk b t l = false by simp [secOk, endOk, h1])
    clear hA
    go_enter Try.func22, Try.ntmps22
    go_wp2_with (go_at_call 41; (with_reducible refine (c_within _ _ _ _).mono ?_); rintro e wq ⟨rfl, rfl⟩)
    go_ret
    exact ⟨ret_bool HP.out.symm, by (repeat' (first | (with_reducible exact Below.refl _ _) | (with_reducible refine Below.setCell ?_ ?_ _) | (with_reducible refine Below.alloc ?_ ?_ _) | (with_reducible refine Below.drew ?_) | (with_reducible refine below_drewN ?_ _) | (with_reducible refine Below.trans ?_ (Below.mono (by with_reducible assumption) ?_)) | omega | (simp only [size_alloc', size_setCell', size_drew', size_drewN'] at *; omega)))⟩
  · cases h2 : inB t 1 4
    · have HP := Lib.hid (show secOk b t l = false by simp [secOk, endOk, h2])
      clear hA
      go_enter Try.func22, Try.ntmps22
      go_wp2_with (go_at_call 41; (with_reducible refine (c_within _ _ _ _).mono ?_); rintro e wq ⟨rfl, rfl⟩)
      go_ret
      exact ⟨ret_bool HP.out.symm, by (repeat' (first | (with_reducible exact Below.refl _ _) | (with_reducible refine Below.setCell ?_ ?_ _) | (with_reducible refine Below.alloc ?_ ?_ _) | (with_reducible refine Below.drew ?_) | (with_reducible refine below_drewN ?_ _) | (with_reducible refine Below.trans ?_ (Below.mono (by with_reducible assumption) ?_)) | omega | (simp only [size_alloc', size_setCell', size_drew', size_drewN'] at *; omega)))⟩
    · by_cases h0 : 0 < l.length ∧ (l.length : Int) ≠ t
      · obtain ⟨h0, h5⟩ := h0
        have h6 : ((l.length : Int) != t) = true := by simpa using h5
        have HP := Lib.hid (show secOk b t l = false by
          have e1 : (l.length == 0) = false := by simp; intro e; rw [e] at h0; simp at h0
          have e2 : ((l.length : Int) == t) = false := by simpa using h5
          simp [secOk, endOk, e1, e2])
        have h7 : (0 : Int) < (l.length : Int) := by omega
        clear hA
        go_enter Try.func22, Try.ntmps22
        go_wp2_with (go_at_call 41; (with_reducible refine (c_within _ _ _ _).mono ?_); rintro e wq ⟨rfl, rfl⟩)
        go_ret
        exact ⟨ret_bool HP.out.symm, by (repeat' (first | (with_reducible exact Below.refl _ _) | (with_reducible refine Below.setCell ?_ ?_ _) | (with_reducible refine Below.alloc ?_ ?_ _) | (with_reducible refine Below.drew ?_) | (with_reducible refine below_drewN ?_ _) | (with_reducible refine Below.trans ?_ (Below.mono (by with_reducible assumption) ?_)) | omega | (simp only [size_alloc', size_setCell', size_drew', size_drewN'] at *; omega)))⟩
      · have HE := Lib.hid (show endOk b t l.length = true by
          have e : (l.length == 0 || (l.length : Int) == t) = true := by
            by_cases e0 : l.length = 0
            · simp [e0]
            · have : (l.length : Int) = t := by
                by_cases e1 : (l.length : Int) = t
                · exact e1
                · exact absurd ⟨by omega, e1⟩ h0
              simp [this]
          simp [endOk, h1, h2, e])
        have h6 : 0 < l.length → ((l.length : Int) != t) = false := by
          intro hl
          by_cases e1 : (l.length : Int) = t
          · simp [e1]
          · exact absurd ⟨hl, e1⟩ h0
        clear h0
        by_cases e0 : 0 < l.length
        all_goals
          (try have h6 := h6 e0)
          have h7 : (decide ((0 : Int) < (l.length : Int))) = decide (0 < l.length) := by simp
          go_enter Try.func22, Try.ntmps22
          go_wp2_with (go_at_call 41; (with_reducible refine (c_within _ _ _ _).mono ?_); rintro e wq ⟨rfl, rfl⟩)
          go_loopw [4, 32] (fun _ i wr => ∃ k : Nat, k ≤ l.length ∧ i = .int .i64 k ∧ Below w.heap.size w wr ∧ ∀ i (h : i < l.length), i < k → inB l[i] 0 12 = true) (fun _ i _ => l.length - (intOf i).toNat)
          case atStart => exact ⟨0, Nat.zero_le _, rfl, by (repeat' (first | (with_reducible exact Below.refl _ _) | (with_reducible refine Below.setCell ?_ ?_ _) | (with_reducible refine Below.alloc ?_ ?_ _) | (with_reducible refine Below.drew ?_) | (with_reducible refine below_drewN ?_ _) | (with_reducible refine Below.trans ?_ (Below.mono (by with_reducible assumption) ?_)) | omega | (simp only [size_alloc', size_setCell', size_drew', size_drewN'] at *; omega))), fun i _ hi => absurd hi (by omega)⟩
          case round =>
            obtain ⟨k, hk, rfl, hbl, hok⟩ := hrel
            have HOK := Lib.hid hok
            clear hok
            by_cases hlt : k < l.length
            · obtain ⟨bb, off, rfl, hcc⟩ := hA (by omega)
              have p0 := int_at (rd_later hbl hcc) k hlt
              have HN := Lib.hid (fun hb => all_no (l := l) (k := k) hlt hb b t)
              have HS := Lib.hid (show inB l[k] 0 12 = true → ∀ i (h : i < l.length), i < k + 1 → inB l[i] 0 12 = true by
                intro he i h1 hi
                rcases Nat.lt_succ_iff_lt_or_eq.1 hi with h3 | rfl
                · exact HOK.out i h1 h3
                · exact he)
              generalize l[k] = x at *
              clear hA hcc
              cases hin : inB x 0 12
              · have HF := Lib.hid (HN.out hin)
                go_wp2_with (go_at_call 41; (with_reducible refine (c_within _ _ _ _).mono ?_); rintro e wq ⟨rfl, rfl⟩)
                go_ret
                exact ⟨ret_bool HF.out.symm, by (repeat' (first | (with_reducible exact Below.refl _ _) | (with_reducible refine Below.setCell ?_ ?_ _) | (with_reducible refine Below.alloc ?_ ?_ _) | (with_reducible refine Below.drew ?_) | (with_reducible refine below_drewN ?_ _) | (with_reducible refine Below.trans ?_ (Below.mono (by with_reducible assumption) ?_)) | omega | (simp only [size_alloc', size_setCell', size_drew', size_drewN'] at *; omega)))⟩
              · have HF := Lib.hid (HS.out hin)
                go_wp2_with (go_at_call 41; (with_reducible refine (c_within _ _ _ _).mono ?_); rintro e wq ⟨rfl, rfl⟩)
                go_roundw
                case rel => exact ⟨k + 1, by omega, by go_num, by (repeat' (first | (with_reducible exact Below.refl _ _) | (with_reducible refine Below.setCell ?_ ?_ _) | (with_reducible refine Below.alloc ?_ ?_ _) | (with_reducible refine Below.drew ?_) | (with_reducible refine below_drewN ?_ _) | (with_reducible refine Below.trans ?_ (Below.mono (by with_reducible assumption) ?_)) | omega | (simp only [size_alloc', size_setCell', size_drew', size_drewN'] at *; omega))), HF.out⟩
                case measure => simp [intOf]; omega
            · have HP := Lib.hid (all_yes (l := l) (fun i h => HOK.out i h (by omega)) b t)
              clear hA
              go_wp2
              go_ret
              exact ⟨ret_bool (by rw [HP.out, HE.out]), by (repeat' (first | (with_reducible exact Below.refl _ _) | (with_reducible refine Below.setCell ?_ ?_ _) | (with_reducible refine Below.alloc ?_ ?_ _) | (with_reducible refine Below.drew ?_) | (with_reducible refine below_drewN ?_ _) | (with_reducible refine Below.trans ?_ (Below.mono (by with_reducible assumption) ?_)) | omega | (simp only [size_alloc', size_setCell', size_drew', size_drewN'] at *; omega)))⟩
end Go.Proofs.Ytlhekgjckjcbhaa
