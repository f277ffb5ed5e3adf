/- Alterations, tonics, pitches of keys: both sides. Conditions: none. -/
import Derived.Test.YtiameebjcmnmeaaK0
import Derived.Test.YtiameebjcmnmeaaC4
namespace Go.Proofs.Ytiameebjcmnmeaa
open Go.RowKit
set_option linter.unusedSimpArgs false
set_option linter.unusedVariables false
set_option maxHeartbeats 8000000
def ordV (j : Nat) : Int := [3, 0, 4, 1, 5, 2, 6].getD j 0
theorem ordV_iff {j : Nat} {s : Int} (hj : j < 7) (h0 : 0 ≤ s) (h6 : s ≤ 6) : ordV j = s ↔ kOrd s = j := by
  have hs : s = 0 ∨ s = 1 ∨ s = 2 ∨ s = 3 ∨ s = 4 ∨ s = 5 ∨ s = 6 := by omega
  have h7 : j = 0 ∨ j = 1 ∨ j = 2 ∨ j = 3 ∨ j = 4 ∨ j = 5 ∨ j = 6 := by omega
  rcases hs with rfl | rfl | rfl | rfl | rfl | rfl | rfl <;> rcases h7 with rfl | rfl | rfl | rfl | rfl | rfl | rfl <;> decide
theorem kOrd_bd {s : Int} (h0 : 0 ≤ s) (h6 : s ≤ 6) : 0 ≤ kOrd s ∧ kOrd s ≤ 6 := by
  have hs : s = 0 ∨ s = 1 ∨ s = 2 ∨ s = 3 ∨ s = 4 ∨ s = 5 ∨ s = 6 := by omega
  rcases hs with rfl | rfl | rfl | rfl | rfl | rfl | rfl <;> decide
theorem alterK_hi {f s : Int} (h : kOrd s < f) : alterK f s = 1 := by unfold alterK; rw [if_pos h]
theorem alterK_lo {f s : Int} (h : ¬ kOrd s < f) (h2 : f < kOrd s - 6) : alterK f s = -1 := by unfold alterK; rw [if_neg h, if_pos h2]
theorem alterK_0 {f s : Int} (h : ¬ kOrd s < f) (h2 : ¬ f < kOrd s - 6) : alterK f s = 0 := by unfold alterK; rw [if_neg h, if_neg h2]
theorem alterK_inv {f s : Int} (h : alterK f s = 0) : ¬ kOrd s < f ∧ ¬ f < kOrd s - 6 := by
  unfold alterK at h
  split at h
  · cases h
  · split at h
    · cases h
    · exact ⟨by assumption, by assumption⟩
theorem c_isKey (f : Int) (w : World) : Calls Try.prog 37 #[.int .i64 f] w fun e w' => e = .returned (.bool (inB f (-7) 7)) ∧ w = w' := by
  go_enter Try.func37, Try.ntmps37
  go_wp2_with (go_at_call 38; refine (c_within _ _ _ _).mono ?_; rintro e w' ⟨rfl, rfl⟩)
  go_ret
  exact ⟨rfl, rfl⟩
set_option maxRecDepth 100000 in
theorem c_KeyAlter (f s : Int) (w : World) (hf : inB f (-7) 7 = true) (hs0 : 0 ≤ s) (hs6 : s ≤ 6) :
    Calls Try.prog 46 #[.int .i64 f, .int .i64 s] w fun e w' => e = .returned (.int .i64 (alterK f s)) ∧ Below w.heap.size w w' := by
  have hs : inB s 0 6 = true := inB_iff.2 ⟨hs0, hs6⟩
  obtain ⟨hf1, hf2⟩ := inB_iff.1 hf
  have HIFF := Lib.hid (fun j (hj : j < 7) => ordV_iff (s := s) hj hs0 hs6)
  obtain ⟨hk1, hk2⟩ := kOrd_bd hs0 hs6
  go_enter Try.func46, Try.ntmps46
  go_wp2_with (first | (go_at_call 37; refine (c_isKey _ _).mono ?_; rintro e w' ⟨rfl, rfl⟩; rw [hf]) | (go_at_call 38; refine (c_within _ _ _ _).mono ?_; rintro e w' ⟨rfl, rfl⟩; rw [hs]))
  go_loopw [18] (fun v wr => ∃ j : Nat, j ≤ 7 ∧ v = .int .i64 j ∧ Below w.heap.size w wr ∧ ((j : Int) ≤ kOrd s ∨ alterK f s = 0)) (fun v _ => 7 - (intOf v).toNat)
  case atStart => exact ⟨0, by omega, rfl, bel1 _ _, .inl (by simpa using hk1)⟩
  case round =>
    obtain ⟨j, hj, rfl, hbl, hok⟩ := hrel
    have HOK := Lib.hid hok
    have hz := hbl.size
    clear hok
    by_cases hlt : j < 7
    · have hx : ∀ w, (Instr.index 85 (.agg #[.int .i64 3, .int .i64 0, .int .i64 4, .int .i64 1, .int .i64 5, .int .i64 2, .int .i64 6]) (.int .i64 j)).run Try.prog w = .ok (.int .i64 (ordV j)) w := by
        have h7 : j = 0 ∨ j = 1 ∨ j = 2 ∨ j = 3 ∨ j = 4 ∨ j = 5 ∨ j = 6 := by omega
        rcases h7 with rfl | rfl | rfl | rfl | rfl | rfl | rfl
        all_goals (intro w; kernel_rfl)
      have hj7 : (j : Int) < 7 := by omega
      by_cases he : ordV j = s
      · have hjk := (HIFF.out j hlt).1 he
        have e1 : (ordV j == s) = true := by simpa using he
        by_cases h1 : (j : Int) < f
        · have HF := Lib.hid (alterK_hi (f := f) (s := s) (by omega))
          clear he hjk
          go_wp2
          go_ret
          exact ⟨ret_int HF.out.symm, hbl⟩
        · by_cases h2 : 6 - (j : Int) < -f
          · have HF := Lib.hid (alterK_lo (f := f) (s := s) (by omega) (by omega))
            clear he hjk
            go_wp2
            go_ret
            exact ⟨ret_int HF.out.symm, hbl⟩
          · have HN := Lib.hid (show (((j + 1 : Nat) : Int) ≤ kOrd s ∨ alterK f s = 0) from .inr (alterK_0 (f := f) (s := s) (by omega) (by omega)))
            clear he hjk
            go_wp2
            go_roundw
            case rel => exact ⟨j + 1, by omega, by go_num, hbl, HN.out⟩
            case measure => simp [intOf]; omega
      · have e1 : (ordV j == s) = false := by simpa using he
        have hjk : ¬ kOrd s = j := fun h => he ((HIFF.out j hlt).2 h)
        have HN := Lib.hid (show (((j + 1 : Nat) : Int) ≤ kOrd s ∨ alterK f s = 0) from by rcases HOK.out with h | h; exact .inl (by omega); exact .inr h)
        clear he hjk
        go_wp2
        go_roundw
        case rel => exact ⟨j + 1, by omega, by go_num, hbl, HN.out⟩
        case measure => simp [intOf]; omega
    · have HF := Lib.hid (show alterK f s = 0 from by rcases HOK.out with h | h; omega; exact h)
      go_wp2
      go_ret
      exact ⟨ret_int HF.out.symm, hbl⟩
theorem c_l3Alter (f s : Int) (w : World) (hf : inB f (-7) 7 = true) (hs0 : 0 ≤ s) (hs6 : s ≤ 6) :
    Calls Try.prog 43 #[.int .i64 f, .int .i64 s] w fun e w' => e = .returned (.int .i64 (alterK f s)) ∧ Below w.heap.size w w' := by
  obtain ⟨hf1, hf2⟩ := inB_iff.1 hf
  obtain ⟨hk1, hk2⟩ := kOrd_bd hs0 hs6
  obtain ⟨n, rfl⟩ := Int.eq_ofNat_of_zero_le hs0
  have hn : n < 7 := by omega
  have hc : (w.alloc (.cells #[.int .i64 1, .int .i64 3, .int .i64 5, .int .i64 0, .int .i64 2, .int .i64 4, .int .i64 6] 3)).cell? ⟨w.heap.size, n, none⟩ = some (.int .i64 (kOrd n)) := by
    rw [cell_of_row _ w.heap.size n _ _ _ (heap_alloc_new w _)]
    have h7 : n = 0 ∨ n = 1 ∨ n = 2 ∨ n = 3 ∨ n = 4 ∨ n = 5 ∨ n = 6 := by omega
    rcases h7 with rfl | rfl | rfl | rfl | rfl | rfl | rfl <;> rfl
  have hn7 : (n : Int) < 7 := by omega
  obtain ⟨o, ho⟩ : ∃ o, kOrd n = o := ⟨_, rfl⟩
  rw [ho] at hc hk1 hk2
  by_cases h1 : o < f
  · have HF := Lib.hid (alterK_hi (f := f) (s := n) (by omega))
    clear ho
    go_enter Try.func43, Try.ntmps43
    go_wp2
    go_ret
    exact ⟨ret_int HF.out.symm, bel1 _ _⟩
  · by_cases h2 : f < o - 6
    · have HF := Lib.hid (alterK_lo (f := f) (s := n) (by omega) (by omega))
      clear ho
      go_enter Try.func43, Try.ntmps43
      go_wp2
      go_ret
      exact ⟨ret_int HF.out.symm, bel1 _ _⟩
    · have HF := Lib.hid (alterK_0 (f := f) (s := n) (by omega) (by omega))
      clear ho
      go_enter Try.func43, Try.ntmps43
      go_wp2
      go_ret
      exact ⟨ret_int HF.out.symm, bel1 _ _⟩
theorem c_tonicPlace (f : Int) (m : Bool) (w : World) (hf : inB f (-7) 7 = true) :
    Calls Try.prog 40 #[.int .i64 f, .bool m] w fun e w' => e = .returned (.int .i64 (28 + tonicK f m)) ∧ w = w' := by
  obtain ⟨hf1, hf2⟩ := inB_iff.1 hf
  obtain ⟨x, hx⟩ : ∃ x, (4 * f) % 7 = x := ⟨_, rfl⟩
  have hx0 : 0 ≤ x := by omega
  have hx1 : x ≤ 6 := by omega
  have HC := Lib.hid (fun w => show Calls Try.prog 45 #[.int .i64 (4 * f), .int .i64 7] w fun e w' => e = .returned (.int .i64 x) ∧ w = w' by have := c_modulo (4 * f) 7 w (by omega) (by omega) (by omega) (by omega); rw [hx] at this; exact this)
  have HV := Lib.hid (show tonicK f m = if m then (x + 5) % 7 else x by unfold tonicK; rw [hx])
  clear hx
  cases m
  all_goals
    go_enter Try.func40, Try.ntmps40
    go_wp2_with (go_at_call 45; (with_reducible refine (HC.out _).mono ?_); rintro e w' ⟨rfl, rfl⟩)
    go_ret
    exact ⟨ret_int (by have := HV.out; simp at this; rw [this]), rfl⟩
theorem c_l3Tonic (f : Int) (m : Bool) (w : World) (hf : inB f (-7) 7 = true) :
    Calls Try.prog 42 #[.int .i64 f, .bool m] w fun e w' => e = .returned (.int .i64 (tonicK f m)) ∧ w = w' := by
  obtain ⟨hf1, hf2⟩ := inB_iff.1 hf
  have HV := Lib.hid (show tonicK f m = if m then ((4 * f + 70) % 7 + 5) % 7 else (4 * f + 70) % 7 by unfold tonicK; cases m <;> simp <;> omega)
  have hx0 : 0 ≤ 4 * f + 70 := by omega
  have hx1 : 0 ≤ (4 * f + 70) % 7 + 5 := by omega
  cases m
  all_goals
    go_enter Try.func42, Try.ntmps42
    go_wp2
    go_ret
    exact ⟨ret_int (by have := HV.out; simp at this; rw [this]), rfl⟩
theorem c_keyPitch (f pl : Int) (w : World) (hf : inB f (-7) 7 = true) (h0 : 0 ≤ pl) (h1 : pl ≤ 1000) :
    Calls Try.prog 39 #[.int .i64 f, .int .i64 pl] w fun e w' => e = .returned (keyPit f pl).v ∧ Below w.heap.size w w' := by
  go_enter Try.func39, Try.ntmps39
  go_wp2_with fail
  (go_at_call 46; (with_reducible refine (c_KeyAlter f (pl % 7) _ hf (by omega) (by omega)).mono ?_); rintro e wq ⟨rfl, hbq⟩; have hzq := hbq.size; (try simp only [size_alloc', size_setCell', size_drew', size_drewN'] at hzq); (try (refine keep_heap (b := w.heap.size) hbq ?_ ?_; (first | omega | (simp only [size_alloc', size_setCell', size_drew', size_drewN']; omega)); intro hkq; simp only [heap_alloc_get, heap_setCell_get, heap_drew_get, heap_drewN_get, size_alloc', size_setCell', size_drew', size_drewN', nat_simp1, nat_simp2, nat_simp3, nat_simp4, nat_simp5, if_true, if_false, *] at hkq; obtain ⟨_, _⟩ := blk_facts hkq)); skip)
  go_wp2
  (refine bodyPost_ret (results_cell_row rfl _ _ (w.heap.size) 32 #[.int .i64 (pl % 7), .int .i64 (alterK f (pl % 7)), .int .i64 (pl / 7)] (0, 0) _ rfl ?_ Try.underlying32 rfl (by kernel_rfl)) rfl ⟨rfl, ?_⟩)
  · (simp only [heap_alloc_get, heap_setCell_get, heap_drew_get, heap_drewN_get, size_alloc', size_setCell', size_drew', size_drewN', nat_simp1, nat_simp2, nat_simp3, nat_simp4, nat_simp5, if_true, if_false, Option.map_some, *]; first | done | rfl | simp)
  · (repeat' (first | (with_reducible exact Below.refl _ _) | (with_reducible refine Below.setCell ?_ ?_ _) | (with_reducible refine Below.alloc ?_ ?_ _) | (with_reducible refine Below.drew ?_) | (with_reducible refine below_drewN ?_ _) | (with_reducible refine Below.trans ?_ (Below.mono (by with_reducible assumption) ?_)) | omega | (simp only [size_alloc', size_setCell', size_drew', size_drewN'] at *; omega)))
end Go.Proofs.Ytiameebjcmnmeaa
