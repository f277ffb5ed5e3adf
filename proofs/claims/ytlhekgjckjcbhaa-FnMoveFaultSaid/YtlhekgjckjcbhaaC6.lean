/- Parallels of the program; its MoveFault. Conditions: none. -/
import Derived.Test.YtlhekgjckjcbhaaC4
namespace Go.Proofs.Ytlhekgjckjcbhaa
open Go.RowKit
set_option linter.unusedSimpArgs false
set_option linter.unusedVariables false
set_option maxHeartbeats 16000000
set_option maxRecDepth 100000 in
theorem c_parallel (v u : Value) (la lb : List Pit) (d : Int) (w : World) (h1 : Rd w v 3 la.length (pitCells la)) (h2 : Rd w u 3 lb.length (pitCells lb)) (hla : la.length = 4) (hlb : lb.length = 4) :
    Calls Try.prog 49 #[v, u, .int .i64 d] w fun e w' => e = .returned (.bool (parB la lb d)) ∧ Below w.heap.size w w' := by
  obtain ⟨_, A1, c1, rfl, hn1, hm1, hA1⟩ := h1
  obtain ⟨_, A2, c2, rfl, hn2, hm2, hA2⟩ := h2
  unfold maxLen at hm1 hm2
  obtain ⟨b1, o1, rfl, hc1⟩ := hA1 (by omega)
  obtain ⟨b2, o2, rfl, hc2⟩ := hA2 (by omega)
  have HC1 := Lib.hid hc1
  have HC2 := Lib.hid hc2
  clear hA1 hA2 hc1 hc2
  have hla1 : la.length ≤ 4 := by omega
  have hla2 : 4 ≤ la.length := by omega
  have hlb1 : lb.length ≤ 4 := by omega
  have hlb2 : 4 ≤ lb.length := by omega
  clear hla hlb
  go_enter Try.func49, Try.ntmps49
  go_wp2_with fail
  go_loopw [12] (fun s wr => ∃ i : Nat, i ≤ 4 ∧ s = .int .i64 i ∧ Below w.heap.size w wr ∧ NoP la lb d i (i + 1)) (fun s _ => 4 - (intOf s).toNat)
  case atStart => exact ⟨0, by omega, rfl, Below.refl _ _, NoP.start⟩
  case round =>
    obtain ⟨i, hi, rfl, hbo, hok⟩ := hrel
    have HOK := Lib.hid hok
    have hzo := hbo.size
    clear hok
    by_cases hlt : i < 4
    · obtain ⟨wo, rfl⟩ : ∃ wo : World, wo = wr := ⟨_, rfl⟩
      have hi4 : (i : Int) < 4 := by omega
      go_wp2_with fail
      go_loopw [8] (fun s wr => ∃ k : Nat, i < k ∧ k ≤ 4 ∧ s = .int .i64 k ∧ Below w.heap.size w wr ∧ NoP la lb d i k) (fun s _ => 4 - (intOf s).toNat)
      case atStart => exact ⟨i + 1, by omega, by omega, by go_num, hbo, HOK.out⟩
      case round =>
        obtain ⟨k, hik, hk, rfl, hbl, hok⟩ := hrel
        have HOK := Lib.hid hok
        have hz := hbl.size
        clear hok
        by_cases hlt2 : k < 4
        · obtain ⟨⟨Ps, Pa, Po⟩, hpP, cP0, cP1, cP2⟩ := pit_get (W := wr) (ns := lb) (fun j u hu => below_cell hbl (HC2.out j u hu)) i (by omega)
          dsimp only at cP0 cP1 cP2
          obtain ⟨P, heP⟩ : ∃ X, keyOf ⟨Ps, Pa, Po⟩ = X := ⟨_, rfl⟩
          have hbP := keyOf_bd ⟨Ps, Pa, Po⟩
          rw [heP] at hpP hbP
          have HKP := Lib.hid (fun w => show Calls Try.prog 13 #[.agg #[.int .i64 Ps, .int .i64 Pa, .int .i64 Po]] w fun e w' => e = .returned (.int .i64 P) ∧ Below w.heap.size w w' by have := c_PitchKey ⟨Ps, Pa, Po⟩ w; rw [heP] at this; exact this)
          have HPP := Lib.hid hpP
          obtain ⟨hbP1, hbP2⟩ := hbP
          clear hpP heP
          obtain ⟨⟨Qs, Qa, Qo⟩, hpQ, cQ0, cQ1, cQ2⟩ := pit_get (W := wr) (ns := la) (fun j u hu => below_cell hbl (HC1.out j u hu)) i (by omega)
          dsimp only at cQ0 cQ1 cQ2
          obtain ⟨Q, heQ⟩ : ∃ X, keyOf ⟨Qs, Qa, Qo⟩ = X := ⟨_, rfl⟩
          have hbQ := keyOf_bd ⟨Qs, Qa, Qo⟩
          rw [heQ] at hpQ hbQ
          have HKQ := Lib.hid (fun w => show Calls Try.prog 13 #[.agg #[.int .i64 Qs, .int .i64 Qa, .int .i64 Qo]] w fun e w' => e = .returned (.int .i64 Q) ∧ Below w.heap.size w w' by have := c_PitchKey ⟨Qs, Qa, Qo⟩ w; rw [heQ] at this; exact this)
          have HPQ := Lib.hid hpQ
          obtain ⟨hbQ1, hbQ2⟩ := hbQ
          clear hpQ heQ
          obtain ⟨⟨Rs, Ra, Ro⟩, hpR, cR0, cR1, cR2⟩ := pit_get (W := wr) (ns := lb) (fun j u hu => below_cell hbl (HC2.out j u hu)) k (by omega)
          dsimp only at cR0 cR1 cR2
          obtain ⟨R, heR⟩ : ∃ X, keyOf ⟨Rs, Ra, Ro⟩ = X := ⟨_, rfl⟩
          have hbR := keyOf_bd ⟨Rs, Ra, Ro⟩
          rw [heR] at hpR hbR
          have HKR := Lib.hid (fun w => show Calls Try.prog 13 #[.agg #[.int .i64 Rs, .int .i64 Ra, .int .i64 Ro]] w fun e w' => e = .returned (.int .i64 R) ∧ Below w.heap.size w w' by have := c_PitchKey ⟨Rs, Ra, Ro⟩ w; rw [heR] at this; exact this)
          have HPR := Lib.hid hpR
          obtain ⟨hbR1, hbR2⟩ := hbR
          clear hpR heR
          obtain ⟨⟨Ts, Ta, To⟩, hpT, cT0, cT1, cT2⟩ := pit_get (W := wr) (ns := la) (fun j u hu => below_cell hbl (HC1.out j u hu)) k (by omega)
          dsimp only at cT0 cT1 cT2
          obtain ⟨T, heT⟩ : ∃ X, keyOf ⟨Ts, Ta, To⟩ = X := ⟨_, rfl⟩
          have hbT := keyOf_bd ⟨Ts, Ta, To⟩
          rw [heT] at hpT hbT
          have HKT := Lib.hid (fun w => show Calls Try.prog 13 #[.agg #[.int .i64 Ts, .int .i64 Ta, .int .i64 To]] w fun e w' => e = .returned (.int .i64 T) ∧ Below w.heap.size w w' by have := c_PitchKey ⟨Ts, Ta, To⟩ w; rw [heT] at this; exact this)
          have HPT := Lib.hid hpT
          obtain ⟨hbT1, hbT2⟩ := hbT
          clear hpT heT
          obtain ⟨m1, he1⟩ : ∃ m, (T - Q) % 12 = m := ⟨_, rfl⟩
          obtain ⟨m2, he2⟩ : ∃ m, (R - P) % 12 = m := ⟨_, rfl⟩
          have HM1 := Lib.hid (fun w => show Calls Try.prog 74 #[.int .i64 (T - Q), .int .i64 12] w fun e w' => e = .returned (.int .i64 m1) ∧ w = w' by have := c_modulo (T - Q) 12 w (by omega) (by omega) (by omega) (by omega); rw [he1] at this; exact this)
          have HM2 := Lib.hid (fun w => show Calls Try.prog 74 #[.int .i64 (R - P), .int .i64 12] w fun e w' => e = .returned (.int .i64 m2) ∧ w = w' by have := c_modulo (R - P) 12 w (by omega) (by omega) (by omega) (by omega); rw [he2] at this; exact this)
          have HE1 := Lib.hid he1
          have HE2 := Lib.hid he2
          clear he1 he2
          have hi1 : (0 : Int) ≤ (i : Int) := by omega
          have hi2 : (i : Int) < (la.length : Int) := by omega
          have hi3 : (i : Int) < (lb.length : Int) := by omega
          have hk1 : (0 : Int) ≤ (k : Int) := by omega
          have hk4 : (k : Int) < 4 := by omega
          have hk2 : (k : Int) < (la.length : Int) := by omega
          have hk3 : (k : Int) < (lb.length : Int) := by omega
          have h5 : (0 < P - Q ∧ 0 < R - T) ∨ (P - Q < 0 ∧ R - T < 0) ∨ (0 < P - Q ∧ ¬ 0 < R - T) ∨ (¬ 0 < P - Q ∧ ¬ P - Q < 0) ∨ (P - Q < 0 ∧ ¬ R - T < 0) := by omega
          rcases h5 with ⟨hx, hy⟩ | ⟨hx, hy⟩ | ⟨hx, hy⟩ | ⟨hx, hy⟩ | ⟨hx, hy⟩
          · have HS := Lib.hid (show samD (P - Q) (R - T) from .inl ⟨hx, hy⟩)
            by_cases hm1 : m1 = d
            · by_cases hm2 : m2 = d
              · have HF := Lib.hid (parB_yes (a := la) (b := lb) (d := d) ⟨i, k, by omega, hlt2, by unfold ParP; rw [HPP.out, HPQ.out, HPR.out, HPT.out, HE1.out, HE2.out]; exact ⟨HS.out, hm1, hm2⟩⟩)
                have e1 : (m1 == d) = true := by simpa using hm1
                have e2 : (m2 == d) = true := by simpa using hm2
                go_wp2_with fail
                (refine wp_region_more_lit (by kernel_rfl) (by kernel_rfl) ?_; (repeat (go_big_quiet_step ((first | (go_at_call 13; with_reducible exact Calls.more_of (HKP.out _)) | (go_at_call 13; with_reducible exact Calls.more_of (HKQ.out _)) | (go_at_call 13; with_reducible exact Calls.more_of (HKR.out _)) | (go_at_call 13; with_reducible exact Calls.more_of (HKT.out _)) | (go_at_call 74; with_reducible exact Calls.more_same (HM1.out _)) | (go_at_call 74; with_reducible exact Calls.more_same (HM2.out _)))))); refine wpQuiet_nil ?_; intro wq hwq; have hbq := below_of_more hwq; clear hwq; have hzq := hbq.size; (try simp only [size_alloc', size_setCell', size_drew', size_drewN'] at hzq); (try (refine keep_heap (b := w.heap.size) hbq ?_ ?_; (first | omega | (simp only [size_alloc', size_setCell', size_drew', size_drewN']; omega)); intro hkq; simp only [heap_alloc_get, heap_setCell_get, heap_drew_get, heap_drewN_get, size_alloc', size_setCell', size_drew', size_drewN', nat_simp1, nat_simp2, nat_simp3, nat_simp4, nat_simp5, if_true, if_false, *] at hkq; obtain ⟨_, _⟩ := blk_facts hkq)); skip)
                go_wp2_with fail
                obtain ⟨wz, rfl⟩ : ∃ wz : World, wz = wq := ⟨_, rfl⟩
                have hbz := hbq
                clear hbq
                have cP0 := below_cell hbz cP0
                have cP1 := below_cell hbz cP1
                have cP2 := below_cell hbz cP2
                have cQ0 := below_cell hbz cQ0
                have cQ1 := below_cell hbz cQ1
                have cQ2 := below_cell hbz cQ2
                have cR0 := below_cell hbz cR0
                have cR1 := below_cell hbz cR1
                have cR2 := below_cell hbz cR2
                have cT0 := below_cell hbz cT0
                have cT1 := below_cell hbz cT1
                have cT2 := below_cell hbz cT2
                (refine wp_region_more_lit (by kernel_rfl) (by kernel_rfl) ?_; (repeat (go_big_quiet_step ((first | (go_at_call 13; with_reducible exact Calls.more_of (HKP.out _)) | (go_at_call 13; with_reducible exact Calls.more_of (HKQ.out _)) | (go_at_call 13; with_reducible exact Calls.more_of (HKR.out _)) | (go_at_call 13; with_reducible exact Calls.more_of (HKT.out _)) | (go_at_call 74; with_reducible exact Calls.more_same (HM1.out _)) | (go_at_call 74; with_reducible exact Calls.more_same (HM2.out _)))))); refine wpQuiet_nil ?_; intro wq hwq; have hbq := below_of_more hwq; clear hwq; have hzq := hbq.size; (try simp only [size_alloc', size_setCell', size_drew', size_drewN'] at hzq); (try (refine keep_heap (b := w.heap.size) hbq ?_ ?_; (first | omega | (simp only [size_alloc', size_setCell', size_drew', size_drewN']; omega)); intro hkq; simp only [heap_alloc_get, heap_setCell_get, heap_drew_get, heap_drewN_get, size_alloc', size_setCell', size_drew', size_drewN', nat_simp1, nat_simp2, nat_simp3, nat_simp4, nat_simp5, if_true, if_false, *] at hkq; obtain ⟨_, _⟩ := blk_facts hkq)); skip)
                go_wp2
                go_ret
                exact ⟨ret_bool HF.out.symm, hbl.trans ((hbz.trans (hbq.mono hbz.size)).mono hz)⟩
              · have HN := Lib.hid (HOK.out.next (by unfold ParP; rw [HPP.out, HPQ.out, HPR.out, HPT.out, HE1.out, HE2.out]; exact fun h => hm2 h.2.2))
                have e1 : (m1 == d) = true := by simpa using hm1
                have e2 : (m2 == d) = false := by simpa using hm2
                go_wp2_with fail
                (refine wp_region_more_lit (by kernel_rfl) (by kernel_rfl) ?_; (repeat (go_big_quiet_step ((first | (go_at_call 13; with_reducible exact Calls.more_of (HKP.out _)) | (go_at_call 13; with_reducible exact Calls.more_of (HKQ.out _)) | (go_at_call 13; with_reducible exact Calls.more_of (HKR.out _)) | (go_at_call 13; with_reducible exact Calls.more_of (HKT.out _)) | (go_at_call 74; with_reducible exact Calls.more_same (HM1.out _)) | (go_at_call 74; with_reducible exact Calls.more_same (HM2.out _)))))); refine wpQuiet_nil ?_; intro wq hwq; have hbq := below_of_more hwq; clear hwq; have hzq := hbq.size; (try simp only [size_alloc', size_setCell', size_drew', size_drewN'] at hzq); (try (refine keep_heap (b := w.heap.size) hbq ?_ ?_; (first | omega | (simp only [size_alloc', size_setCell', size_drew', size_drewN']; omega)); intro hkq; simp only [heap_alloc_get, heap_setCell_get, heap_drew_get, heap_drewN_get, size_alloc', size_setCell', size_drew', size_drewN', nat_simp1, nat_simp2, nat_simp3, nat_simp4, nat_simp5, if_true, if_false, *] at hkq; obtain ⟨_, _⟩ := blk_facts hkq)); skip)
                go_wp2_with fail
                try simp only [hy3]
                obtain ⟨wz, rfl⟩ : ∃ wz : World, wz = wq := ⟨_, rfl⟩
                have hbz := hbq
                clear hbq
                have cP0 := below_cell hbz cP0
                have cP1 := below_cell hbz cP1
                have cP2 := below_cell hbz cP2
                have cQ0 := below_cell hbz cQ0
                have cQ1 := below_cell hbz cQ1
                have cQ2 := below_cell hbz cQ2
                have cR0 := below_cell hbz cR0
                have cR1 := below_cell hbz cR1
                have cR2 := below_cell hbz cR2
                have cT0 := below_cell hbz cT0
                have cT1 := below_cell hbz cT1
                have cT2 := below_cell hbz cT2
                (refine wp_region_more_lit (by kernel_rfl) (by kernel_rfl) ?_; (repeat (go_big_quiet_step ((first | (go_at_call 13; with_reducible exact Calls.more_of (HKP.out _)) | (go_at_call 13; with_reducible exact Calls.more_of (HKQ.out _)) | (go_at_call 13; with_reducible exact Calls.more_of (HKR.out _)) | (go_at_call 13; with_reducible exact Calls.more_of (HKT.out _)) | (go_at_call 74; with_reducible exact Calls.more_same (HM1.out _)) | (go_at_call 74; with_reducible exact Calls.more_same (HM2.out _)))))); refine wpQuiet_nil ?_; intro wq hwq; have hbq := below_of_more hwq; clear hwq; have hzq := hbq.size; (try simp only [size_alloc', size_setCell', size_drew', size_drewN'] at hzq); (try (refine keep_heap (b := w.heap.size) hbq ?_ ?_; (first | omega | (simp only [size_alloc', size_setCell', size_drew', size_drewN']; omega)); intro hkq; simp only [heap_alloc_get, heap_setCell_get, heap_drew_get, heap_drewN_get, size_alloc', size_setCell', size_drew', size_drewN', nat_simp1, nat_simp2, nat_simp3, nat_simp4, nat_simp5, if_true, if_false, *] at hkq; obtain ⟨_, _⟩ := blk_facts hkq)); skip)
                go_wp2
                go_roundw
                case rel => exact ⟨k + 1, by omega, by omega, by go_num, hbl.trans ((hbz.trans (hbq.mono hbz.size)).mono hz), HN.out⟩
                case measure => simp [intOf]; omega
            · have HN := Lib.hid (HOK.out.next (by unfold ParP; rw [HPP.out, HPQ.out, HPR.out, HPT.out, HE1.out, HE2.out]; exact fun h => hm1 h.2.1))
              have e1 : (m1 == d) = false := by simpa using hm1
              go_wp2_with fail
              (refine wp_region_more_lit (by kernel_rfl) (by kernel_rfl) ?_; (repeat (go_big_quiet_step ((first | (go_at_call 13; with_reducible exact Calls.more_of (HKP.out _)) | (go_at_call 13; with_reducible exact Calls.more_of (HKQ.out _)) | (go_at_call 13; with_reducible exact Calls.more_of (HKR.out _)) | (go_at_call 13; with_reducible exact Calls.more_of (HKT.out _)) | (go_at_call 74; with_reducible exact Calls.more_same (HM1.out _)) | (go_at_call 74; with_reducible exact Calls.more_same (HM2.out _)))))); refine wpQuiet_nil ?_; intro wq hwq; have hbq := below_of_more hwq; clear hwq; have hzq := hbq.size; (try simp only [size_alloc', size_setCell', size_drew', size_drewN'] at hzq); (try (refine keep_heap (b := w.heap.size) hbq ?_ ?_; (first | omega | (simp only [size_alloc', size_setCell', size_drew', size_drewN']; omega)); intro hkq; simp only [heap_alloc_get, heap_setCell_get, heap_drew_get, heap_drewN_get, size_alloc', size_setCell', size_drew', size_drewN', nat_simp1, nat_simp2, nat_simp3, nat_simp4, nat_simp5, if_true, if_false, *] at hkq; obtain ⟨_, _⟩ := blk_facts hkq)); skip)
              go_wp2_with fail
              try simp only [hy3]
              obtain ⟨wz, rfl⟩ : ∃ wz : World, wz = wq := ⟨_, rfl⟩
              have hbz := hbq
              clear hbq
              have cP0 := below_cell hbz cP0
              have cP1 := below_cell hbz cP1
              have cP2 := below_cell hbz cP2
              have cQ0 := below_cell hbz cQ0
              have cQ1 := below_cell hbz cQ1
              have cQ2 := below_cell hbz cQ2
              have cR0 := below_cell hbz cR0
              have cR1 := below_cell hbz cR1
              have cR2 := below_cell hbz cR2
              have cT0 := below_cell hbz cT0
              have cT1 := below_cell hbz cT1
              have cT2 := below_cell hbz cT2
              (refine wp_region_more_lit (by kernel_rfl) (by kernel_rfl) ?_; (repeat (go_big_quiet_step ((first | (go_at_call 13; with_reducible exact Calls.more_of (HKP.out _)) | (go_at_call 13; with_reducible exact Calls.more_of (HKQ.out _)) | (go_at_call 13; with_reducible exact Calls.more_of (HKR.out _)) | (go_at_call 13; with_reducible exact Calls.more_of (HKT.out _)) | (go_at_call 74; with_reducible exact Calls.more_same (HM1.out _)) | (go_at_call 74; with_reducible exact Calls.more_same (HM2.out _)))))); refine wpQuiet_nil ?_; intro wq hwq; have hbq := below_of_more hwq; clear hwq; have hzq := hbq.size; (try simp only [size_alloc', size_setCell', size_drew', size_drewN'] at hzq); (try (refine keep_heap (b := w.heap.size) hbq ?_ ?_; (first | omega | (simp only [size_alloc', size_setCell', size_drew', size_drewN']; omega)); intro hkq; simp only [heap_alloc_get, heap_setCell_get, heap_drew_get, heap_drewN_get, size_alloc', size_setCell', size_drew', size_drewN', nat_simp1, nat_simp2, nat_simp3, nat_simp4, nat_simp5, if_true, if_false, *] at hkq; obtain ⟨_, _⟩ := blk_facts hkq)); skip)
              go_wp2
              go_roundw
              case rel => exact ⟨k + 1, by omega, by omega, by go_num, hbl.trans ((hbz.trans (hbq.mono hbz.size)).mono hz), HN.out⟩
              case measure => simp [intOf]; omega
          · have HS := Lib.hid (show samD (P - Q) (R - T) from .inr ⟨hx, hy⟩)
            have hx' : ¬ 0 < P - Q := by omega
            by_cases hm1 : m1 = d
            · by_cases hm2 : m2 = d
              · have HF := Lib.hid (parB_yes (a := la) (b := lb) (d := d) ⟨i, k, by omega, hlt2, by unfold ParP; rw [HPP.out, HPQ.out, HPR.out, HPT.out, HE1.out, HE2.out]; exact ⟨HS.out, hm1, hm2⟩⟩)
                have e1 : (m1 == d) = true := by simpa using hm1
                have e2 : (m2 == d) = true := by simpa using hm2
                go_wp2_with fail
                (refine wp_region_more_lit (by kernel_rfl) (by kernel_rfl) ?_; (repeat (go_big_quiet_step ((first | (go_at_call 13; with_reducible exact Calls.more_of (HKP.out _)) | (go_at_call 13; with_reducible exact Calls.more_of (HKQ.out _)) | (go_at_call 13; with_reducible exact Calls.more_of (HKR.out _)) | (go_at_call 13; with_reducible exact Calls.more_of (HKT.out _)) | (go_at_call 74; with_reducible exact Calls.more_same (HM1.out _)) | (go_at_call 74; with_reducible exact Calls.more_same (HM2.out _)))))); refine wpQuiet_nil ?_; intro wq hwq; have hbq := below_of_more hwq; clear hwq; have hzq := hbq.size; (try simp only [size_alloc', size_setCell', size_drew', size_drewN'] at hzq); (try (refine keep_heap (b := w.heap.size) hbq ?_ ?_; (first | omega | (simp only [size_alloc', size_setCell', size_drew', size_drewN']; omega)); intro hkq; simp only [heap_alloc_get, heap_setCell_get, heap_drew_get, heap_drewN_get, size_alloc', size_setCell', size_drew', size_drewN', nat_simp1, nat_simp2, nat_simp3, nat_simp4, nat_simp5, if_true, if_false, *] at hkq; obtain ⟨_, _⟩ := blk_facts hkq)); skip)
                go_wp2_with fail
                obtain ⟨wz, rfl⟩ : ∃ wz : World, wz = wq := ⟨_, rfl⟩
                have hbz := hbq
                clear hbq
                have cP0 := below_cell hbz cP0
                have cP1 := below_cell hbz cP1
                have cP2 := below_cell hbz cP2
                have cQ0 := below_cell hbz cQ0
                have cQ1 := below_cell hbz cQ1
                have cQ2 := below_cell hbz cQ2
                have cR0 := below_cell hbz cR0
                have cR1 := below_cell hbz cR1
                have cR2 := below_cell hbz cR2
                have cT0 := below_cell hbz cT0
                have cT1 := below_cell hbz cT1
                have cT2 := below_cell hbz cT2
                (refine wp_region_more_lit (by kernel_rfl) (by kernel_rfl) ?_; (repeat (go_big_quiet_step ((first | (go_at_call 13; with_reducible exact Calls.more_of (HKP.out _)) | (go_at_call 13; with_reducible exact Calls.more_of (HKQ.out _)) | (go_at_call 13; with_reducible exact Calls.more_of (HKR.out _)) | (go_at_call 13; with_reducible exact Calls.more_of (HKT.out _)) | (go_at_call 74; with_reducible exact Calls.more_same (HM1.out _)) | (go_at_call 74; with_reducible exact Calls.more_same (HM2.out _)))))); refine wpQuiet_nil ?_; intro wq hwq; have hbq := below_of_more hwq; clear hwq; have hzq := hbq.size; (try simp only [size_alloc', size_setCell', size_drew', size_drewN'] at hzq); (try (refine keep_heap (b := w.heap.size) hbq ?_ ?_; (first | omega | (simp only [size_alloc', size_setCell', size_drew', size_drewN']; omega)); intro hkq; simp only [heap_alloc_get, heap_setCell_get, heap_drew_get, heap_drewN_get, size_alloc', size_setCell', size_drew', size_drewN', nat_simp1, nat_simp2, nat_simp3, nat_simp4, nat_simp5, if_true, if_false, *] at hkq; obtain ⟨_, _⟩ := blk_facts hkq)); skip)
                go_wp2
                go_ret
                exact ⟨ret_bool HF.out.symm, hbl.trans ((hbz.trans (hbq.mono hbz.size)).mono hz)⟩
              · have HN := Lib.hid (HOK.out.next (by unfold ParP; rw [HPP.out, HPQ.out, HPR.out, HPT.out, HE1.out, HE2.out]; exact fun h => hm2 h.2.2))
                have e1 : (m1 == d) = true := by simpa using hm1
                have e2 : (m2 == d) = false := by simpa using hm2
                go_wp2_with fail
                (refine wp_region_more_lit (by kernel_rfl) (by kernel_rfl) ?_; (repeat (go_big_quiet_step ((first | (go_at_call 13; with_reducible exact Calls.more_of (HKP.out _)) | (go_at_call 13; with_reducible exact Calls.more_of (HKQ.out _)) | (go_at_call 13; with_reducible exact Calls.more_of (HKR.out _)) | (go_at_call 13; with_reducible exact Calls.more_of (HKT.out _)) | (go_at_call 74; with_reducible exact Calls.more_same (HM1.out _)) | (go_at_call 74; with_reducible exact Calls.more_same (HM2.out _)))))); refine wpQuiet_nil ?_; intro wq hwq; have hbq := below_of_more hwq; clear hwq; have hzq := hbq.size; (try simp only [size_alloc', size_setCell', size_drew', size_drewN'] at hzq); (try (refine keep_heap (b := w.heap.size) hbq ?_ ?_; (first | omega | (simp only [size_alloc', size_setCell', size_drew', size_drewN']; omega)); intro hkq; simp only [heap_alloc_get, heap_setCell_get, heap_drew_get, heap_drewN_get, size_alloc', size_setCell', size_drew', size_drewN', nat_simp1, nat_simp2, nat_simp3, nat_simp4, nat_simp5, if_true, if_false, *] at hkq; obtain ⟨_, _⟩ := blk_facts hkq)); skip)
                go_wp2_with fail
                try simp only [hy3]
                obtain ⟨wz, rfl⟩ : ∃ wz : World, wz = wq := ⟨_, rfl⟩
                have hbz := hbq
                clear hbq
                have cP0 := below_cell hbz cP0
                have cP1 := below_cell hbz cP1
                have cP2 := below_cell hbz cP2
                have cQ0 := below_cell hbz cQ0
                have cQ1 := below_cell hbz cQ1
                have cQ2 := below_cell hbz cQ2
                have cR0 := below_cell hbz cR0
                have cR1 := below_cell hbz cR1
                have cR2 := below_cell hbz cR2
                have cT0 := below_cell hbz cT0
                have cT1 := below_cell hbz cT1
                have cT2 := below_cell hbz cT2
                (refine wp_region_more_lit (by kernel_rfl) (by kernel_rfl) ?_; (repeat (go_big_quiet_step ((first | (go_at_call 13; with_reducible exact Calls.more_of (HKP.out _)) | (go_at_call 13; with_reducible exact Calls.more_of (HKQ.out _)) | (go_at_call 13; with_reducible exact Calls.more_of (HKR.out _)) | (go_at_call 13; with_reducible exact Calls.more_of (HKT.out _)) | (go_at_call 74; with_reducible exact Calls.more_same (HM1.out _)) | (go_at_call 74; with_reducible exact Calls.more_same (HM2.out _)))))); refine wpQuiet_nil ?_; intro wq hwq; have hbq := below_of_more hwq; clear hwq; have hzq := hbq.size; (try simp only [size_alloc', size_setCell', size_drew', size_drewN'] at hzq); (try (refine keep_heap (b := w.heap.size) hbq ?_ ?_; (first | omega | (simp only [size_alloc', size_setCell', size_drew', size_drewN']; omega)); intro hkq; simp only [heap_alloc_get, heap_setCell_get, heap_drew_get, heap_drewN_get, size_alloc', size_setCell', size_drew', size_drewN', nat_simp1, nat_simp2, nat_simp3, nat_simp4, nat_simp5, if_true, if_false, *] at hkq; obtain ⟨_, _⟩ := blk_facts hkq)); skip)
                go_wp2
                go_roundw
                case rel => exact ⟨k + 1, by omega, by omega, by go_num, hbl.trans ((hbz.trans (hbq.mono hbz.size)).mono hz), HN.out⟩
                case measure => simp [intOf]; omega
            · have HN := Lib.hid (HOK.out.next (by unfold ParP; rw [HPP.out, HPQ.out, HPR.out, HPT.out, HE1.out, HE2.out]; exact fun h => hm1 h.2.1))
              have e1 : (m1 == d) = false := by simpa using hm1
              go_wp2_with fail
              (refine wp_region_more_lit (by kernel_rfl) (by kernel_rfl) ?_; (repeat (go_big_quiet_step ((first | (go_at_call 13; with_reducible exact Calls.more_of (HKP.out _)) | (go_at_call 13; with_reducible exact Calls.more_of (HKQ.out _)) | (go_at_call 13; with_reducible exact Calls.more_of (HKR.out _)) | (go_at_call 13; with_reducible exact Calls.more_of (HKT.out _)) | (go_at_call 74; with_reducible exact Calls.more_same (HM1.out _)) | (go_at_call 74; with_reducible exact Calls.more_same (HM2.out _)))))); refine wpQuiet_nil ?_; intro wq hwq; have hbq := below_of_more hwq; clear hwq; have hzq := hbq.size; (try simp only [size_alloc', size_setCell', size_drew', size_drewN'] at hzq); (try (refine keep_heap (b := w.heap.size) hbq ?_ ?_; (first | omega | (simp only [size_alloc', size_setCell', size_drew', size_drewN']; omega)); intro hkq; simp only [heap_alloc_get, heap_setCell_get, heap_drew_get, heap_drewN_get, size_alloc', size_setCell', size_drew', size_drewN', nat_simp1, nat_simp2, nat_simp3, nat_simp4, nat_simp5, if_true, if_false, *] at hkq; obtain ⟨_, _⟩ := blk_facts hkq)); skip)
              go_wp2_with fail
              try simp only [hy3]
              obtain ⟨wz, rfl⟩ : ∃ wz : World, wz = wq := ⟨_, rfl⟩
              have hbz := hbq
              clear hbq
              have cP0 := below_cell hbz cP0
              have cP1 := below_cell hbz cP1
              have cP2 := below_cell hbz cP2
              have cQ0 := below_cell hbz cQ0
              have cQ1 := below_cell hbz cQ1
              have cQ2 := below_cell hbz cQ2
              have cR0 := below_cell hbz cR0
              have cR1 := below_cell hbz cR1
              have cR2 := below_cell hbz cR2
              have cT0 := below_cell hbz cT0
              have cT1 := below_cell hbz cT1
              have cT2 := below_cell hbz cT2
              (refine wp_region_more_lit (by kernel_rfl) (by kernel_rfl) ?_; (repeat (go_big_quiet_step ((first | (go_at_call 13; with_reducible exact Calls.more_of (HKP.out _)) | (go_at_call 13; with_reducible exact Calls.more_of (HKQ.out _)) | (go_at_call 13; with_reducible exact Calls.more_of (HKR.out _)) | (go_at_call 13; with_reducible exact Calls.more_of (HKT.out _)) | (go_at_call 74; with_reducible exact Calls.more_same (HM1.out _)) | (go_at_call 74; with_reducible exact Calls.more_same (HM2.out _)))))); refine wpQuiet_nil ?_; intro wq hwq; have hbq := below_of_more hwq; clear hwq; have hzq := hbq.size; (try simp only [size_alloc', size_setCell', size_drew', size_drewN'] at hzq); (try (refine keep_heap (b := w.heap.size) hbq ?_ ?_; (first | omega | (simp only [size_alloc', size_setCell', size_drew', size_drewN']; omega)); intro hkq; simp only [heap_alloc_get, heap_setCell_get, heap_drew_get, heap_drewN_get, size_alloc', size_setCell', size_drew', size_drewN', nat_simp1, nat_simp2, nat_simp3, nat_simp4, nat_simp5, if_true, if_false, *] at hkq; obtain ⟨_, _⟩ := blk_facts hkq)); skip)
              go_wp2
              go_roundw
              case rel => exact ⟨k + 1, by omega, by omega, by go_num, hbl.trans ((hbz.trans (hbq.mono hbz.size)).mono hz), HN.out⟩
              case measure => simp [intOf]; omega
          · have HN := Lib.hid (HOK.out.next (by unfold ParP; rw [HPP.out, HPQ.out, HPR.out, HPT.out]; unfold samD; omega))
            have hx' : ¬ P - Q < 0 := by omega
            have hx2 : ¬ P < Q := by omega
            have hy2 : ¬ T < R := by omega
            have hy3 : decide (T < R) = false := by simp; omega
            go_wp2_with fail
            (refine wp_region_more_lit (by kernel_rfl) (by kernel_rfl) ?_; (repeat (go_big_quiet_step ((first | (go_at_call 13; with_reducible exact Calls.more_of (HKP.out _)) | (go_at_call 13; with_reducible exact Calls.more_of (HKQ.out _)) | (go_at_call 13; with_reducible exact Calls.more_of (HKR.out _)) | (go_at_call 13; with_reducible exact Calls.more_of (HKT.out _)) | (go_at_call 74; with_reducible exact Calls.more_same (HM1.out _)) | (go_at_call 74; with_reducible exact Calls.more_same (HM2.out _)))))); refine wpQuiet_nil ?_; intro wq hwq; have hbq := below_of_more hwq; clear hwq; have hzq := hbq.size; (try simp only [size_alloc', size_setCell', size_drew', size_drewN'] at hzq); (try (refine keep_heap (b := w.heap.size) hbq ?_ ?_; (first | omega | (simp only [size_alloc', size_setCell', size_drew', size_drewN']; omega)); intro hkq; simp only [heap_alloc_get, heap_setCell_get, heap_drew_get, heap_drewN_get, size_alloc', size_setCell', size_drew', size_drewN', nat_simp1, nat_simp2, nat_simp3, nat_simp4, nat_simp5, if_true, if_false, *] at hkq; obtain ⟨_, _⟩ := blk_facts hkq)); skip)
            go_wp2_with fail
            try simp only [hy3]
            obtain ⟨wz, rfl⟩ : ∃ wz : World, wz = wq := ⟨_, rfl⟩
            have hbz := hbq
            clear hbq
            have cP0 := below_cell hbz cP0
            have cP1 := below_cell hbz cP1
            have cP2 := below_cell hbz cP2
            have cQ0 := below_cell hbz cQ0
            have cQ1 := below_cell hbz cQ1
            have cQ2 := below_cell hbz cQ2
            have cR0 := below_cell hbz cR0
            have cR1 := below_cell hbz cR1
            have cR2 := below_cell hbz cR2
            have cT0 := below_cell hbz cT0
            have cT1 := below_cell hbz cT1
            have cT2 := below_cell hbz cT2
            (refine wp_region_more_lit (by kernel_rfl) (by kernel_rfl) ?_; (repeat (go_big_quiet_step ((first | (go_at_call 13; with_reducible exact Calls.more_of (HKP.out _)) | (go_at_call 13; with_reducible exact Calls.more_of (HKQ.out _)) | (go_at_call 13; with_reducible exact Calls.more_of (HKR.out _)) | (go_at_call 13; with_reducible exact Calls.more_of (HKT.out _)) | (go_at_call 74; with_reducible exact Calls.more_same (HM1.out _)) | (go_at_call 74; with_reducible exact Calls.more_same (HM2.out _)))))); refine wpQuiet_nil ?_; intro wq hwq; have hbq := below_of_more hwq; clear hwq; have hzq := hbq.size; (try simp only [size_alloc', size_setCell', size_drew', size_drewN'] at hzq); (try (refine keep_heap (b := w.heap.size) hbq ?_ ?_; (first | omega | (simp only [size_alloc', size_setCell', size_drew', size_drewN']; omega)); intro hkq; simp only [heap_alloc_get, heap_setCell_get, heap_drew_get, heap_drewN_get, size_alloc', size_setCell', size_drew', size_drewN', nat_simp1, nat_simp2, nat_simp3, nat_simp4, nat_simp5, if_true, if_false, *] at hkq; obtain ⟨_, _⟩ := blk_facts hkq)); skip)
            go_wp2
            go_roundw
            case rel => exact ⟨k + 1, by omega, by omega, by go_num, hbl.trans ((hbz.trans (hbq.mono hbz.size)).mono hz), HN.out⟩
            case measure => simp [intOf]; omega
          · have HN := Lib.hid (HOK.out.next (by unfold ParP; rw [HPP.out, HPQ.out, HPR.out, HPT.out]; unfold samD; omega))
            have hx2 : ¬ P < Q := by omega
            have hy2 : ¬ Q < P := by omega
            go_wp2_with fail
            (refine wp_region_more_lit (by kernel_rfl) (by kernel_rfl) ?_; (repeat (go_big_quiet_step ((first | (go_at_call 13; with_reducible exact Calls.more_of (HKP.out _)) | (go_at_call 13; with_reducible exact Calls.more_of (HKQ.out _)) | (go_at_call 13; with_reducible exact Calls.more_of (HKR.out _)) | (go_at_call 13; with_reducible exact Calls.more_of (HKT.out _)) | (go_at_call 74; with_reducible exact Calls.more_same (HM1.out _)) | (go_at_call 74; with_reducible exact Calls.more_same (HM2.out _)))))); refine wpQuiet_nil ?_; intro wq hwq; have hbq := below_of_more hwq; clear hwq; have hzq := hbq.size; (try simp only [size_alloc', size_setCell', size_drew', size_drewN'] at hzq); (try (refine keep_heap (b := w.heap.size) hbq ?_ ?_; (first | omega | (simp only [size_alloc', size_setCell', size_drew', size_drewN']; omega)); intro hkq; simp only [heap_alloc_get, heap_setCell_get, heap_drew_get, heap_drewN_get, size_alloc', size_setCell', size_drew', size_drewN', nat_simp1, nat_simp2, nat_simp3, nat_simp4, nat_simp5, if_true, if_false, *] at hkq; obtain ⟨_, _⟩ := blk_facts hkq)); skip)
            go_wp2_with fail
            try simp only [hy3]
            obtain ⟨wz, rfl⟩ : ∃ wz : World, wz = wq := ⟨_, rfl⟩
            have hbz := hbq
            clear hbq
            have cP0 := below_cell hbz cP0
            have cP1 := below_cell hbz cP1
            have cP2 := below_cell hbz cP2
            have cQ0 := below_cell hbz cQ0
            have cQ1 := below_cell hbz cQ1
            have cQ2 := below_cell hbz cQ2
            have cR0 := below_cell hbz cR0
            have cR1 := below_cell hbz cR1
            have cR2 := below_cell hbz cR2
            have cT0 := below_cell hbz cT0
            have cT1 := below_cell hbz cT1
            have cT2 := below_cell hbz cT2
            (refine wp_region_more_lit (by kernel_rfl) (by kernel_rfl) ?_; (repeat (go_big_quiet_step ((first | (go_at_call 13; with_reducible exact Calls.more_of (HKP.out _)) | (go_at_call 13; with_reducible exact Calls.more_of (HKQ.out _)) | (go_at_call 13; with_reducible exact Calls.more_of (HKR.out _)) | (go_at_call 13; with_reducible exact Calls.more_of (HKT.out _)) | (go_at_call 74; with_reducible exact Calls.more_same (HM1.out _)) | (go_at_call 74; with_reducible exact Calls.more_same (HM2.out _)))))); refine wpQuiet_nil ?_; intro wq hwq; have hbq := below_of_more hwq; clear hwq; have hzq := hbq.size; (try simp only [size_alloc', size_setCell', size_drew', size_drewN'] at hzq); (try (refine keep_heap (b := w.heap.size) hbq ?_ ?_; (first | omega | (simp only [size_alloc', size_setCell', size_drew', size_drewN']; omega)); intro hkq; simp only [heap_alloc_get, heap_setCell_get, heap_drew_get, heap_drewN_get, size_alloc', size_setCell', size_drew', size_drewN', nat_simp1, nat_simp2, nat_simp3, nat_simp4, nat_simp5, if_true, if_false, *] at hkq; obtain ⟨_, _⟩ := blk_facts hkq)); skip)
            go_wp2
            go_roundw
            case rel => exact ⟨k + 1, by omega, by omega, by go_num, hbl.trans ((hbz.trans (hbq.mono hbz.size)).mono hz), HN.out⟩
            case measure => simp [intOf]; omega
          · have HN := Lib.hid (HOK.out.next (by unfold ParP; rw [HPP.out, HPQ.out, HPR.out, HPT.out]; unfold samD; omega))
            have hx' : ¬ 0 < P - Q := by omega
            have hx2 : ¬ Q < P := by omega
            have hy2 : ¬ R < T := by omega
            have hy3 : decide (R - T < 0) = false := by simp; omega
            go_wp2_with fail
            (refine wp_region_more_lit (by kernel_rfl) (by kernel_rfl) ?_; (repeat (go_big_quiet_step ((first | (go_at_call 13; with_reducible exact Calls.more_of (HKP.out _)) | (go_at_call 13; with_reducible exact Calls.more_of (HKQ.out _)) | (go_at_call 13; with_reducible exact Calls.more_of (HKR.out _)) | (go_at_call 13; with_reducible exact Calls.more_of (HKT.out _)) | (go_at_call 74; with_reducible exact Calls.more_same (HM1.out _)) | (go_at_call 74; with_reducible exact Calls.more_same (HM2.out _)))))); refine wpQuiet_nil ?_; intro wq hwq; have hbq := below_of_more hwq; clear hwq; have hzq := hbq.size; (try simp only [size_alloc', size_setCell', size_drew', size_drewN'] at hzq); (try (refine keep_heap (b := w.heap.size) hbq ?_ ?_; (first | omega | (simp only [size_alloc', size_setCell', size_drew', size_drewN']; omega)); intro hkq; simp only [heap_alloc_get, heap_setCell_get, heap_drew_get, heap_drewN_get, size_alloc', size_setCell', size_drew', size_drewN', nat_simp1, nat_simp2, nat_simp3, nat_simp4, nat_simp5, if_true, if_false, *] at hkq; obtain ⟨_, _⟩ := blk_facts hkq)); skip)
            go_wp2_with fail
            try simp only [hy3]
            obtain ⟨wz, rfl⟩ : ∃ wz : World, wz = wq := ⟨_, rfl⟩
            have hbz := hbq
            clear hbq
            have cP0 := below_cell hbz cP0
            have cP1 := below_cell hbz cP1
            have cP2 := below_cell hbz cP2
            have cQ0 := below_cell hbz cQ0
            have cQ1 := below_cell hbz cQ1
            have cQ2 := below_cell hbz cQ2
            have cR0 := below_cell hbz cR0
            have cR1 := below_cell hbz cR1
            have cR2 := below_cell hbz cR2
            have cT0 := below_cell hbz cT0
            have cT1 := below_cell hbz cT1
            have cT2 := below_cell hbz cT2
            (refine wp_region_more_lit (by kernel_rfl) (by kernel_rfl) ?_; (repeat (go_big_quiet_step ((first | (go_at_call 13; with_reducible exact Calls.more_of (HKP.out _)) | (go_at_call 13; with_reducible exact Calls.more_of (HKQ.out _)) | (go_at_call 13; with_reducible exact Calls.more_of (HKR.out _)) | (go_at_call 13; with_reducible exact Calls.more_of (HKT.out _)) | (go_at_call 74; with_reducible exact Calls.more_same (HM1.out _)) | (go_at_call 74; with_reducible exact Calls.more_same (HM2.out _)))))); refine wpQuiet_nil ?_; intro wq hwq; have hbq := below_of_more hwq; clear hwq; have hzq := hbq.size; (try simp only [size_alloc', size_setCell', size_drew', size_drewN'] at hzq); (try (refine keep_heap (b := w.heap.size) hbq ?_ ?_; (first | omega | (simp only [size_alloc', size_setCell', size_drew', size_drewN']; omega)); intro hkq; simp only [heap_alloc_get, heap_setCell_get, heap_drew_get, heap_drewN_get, size_alloc', size_setCell', size_drew', size_drewN', nat_simp1, nat_simp2, nat_simp3, nat_simp4, nat_simp5, if_true, if_false, *] at hkq; obtain ⟨_, _⟩ := blk_facts hkq)); skip)
            go_wp2
            go_roundw
            case rel => exact ⟨k + 1, by omega, by omega, by go_num, hbl.trans ((hbz.trans (hbq.mono hbz.size)).mono hz), HN.out⟩
            case measure => simp [intOf]; omega
        · obtain rfl : k = 4 := by omega
          have HN := Lib.hid HOK.out.row
          go_wp2
          go_roundw
          case rel => exact ⟨i + 1, by omega, by go_num, hbl, HN.out⟩
          case measure => simp [intOf]; omega
    · obtain rfl : i = 4 := by omega
      have HF := Lib.hid (parB_no HOK.out.all)
      go_wp2
      go_ret
      exact ⟨ret_bool HF.out.symm, hbo⟩
set_option maxRecDepth 100000 in
theorem c_MoveFault (v : Value) (la : List Pit) (u : Value) (lb : List Pit) (w : World) (h1 : Rd w v 3 la.length (pitCells la)) (h2 : Rd w u 3 lb.length (pitCells lb)) :
    Calls Try.prog 15 #[v, u] w fun e w' => e = .returned (.int .i64 (moveF la lb)) ∧ Below w.heap.size w w' := by
  have H1 := Lib.hid h1
  have H2 := Lib.hid h2
  obtain ⟨_, A1, c1, rfl, hn1, hm1, hA1⟩ := h1
  obtain ⟨_, A2, c2, rfl, hn2, hm2, hA2⟩ := h2
  unfold maxLen at hm1 hm2
  clear hA1 hA2
  cases hva : arePits la 4 4
  · have HF := Lib.hid (moveF_1a (b := lb) hva)
    go_enter Try.func15, Try.ntmps15
    go_wp2_with fail
    (go_at_call 39; (with_reducible refine (c_arePitches _ la 4 4 _ H1.out).mono ?_); rintro e wq ⟨rfl, hbq⟩; rw [hva])
    go_wp2
    go_ret
    exact ⟨ret_int HF.out.symm, hbq⟩
  · cases hvb : arePits lb 4 4
    · have HF := Lib.hid (moveF_1b (a := la) hvb)
      go_enter Try.func15, Try.ntmps15
      go_wp2_with fail
      (go_at_call 39; (with_reducible refine (c_arePitches _ la 4 4 _ H1.out).mono ?_); rintro e w1 ⟨rfl, hb1⟩; rw [hva])
      have HR2 := Lib.hid (H2.out.below (Nat.le_refl _) hb1)
      go_wp2_with fail
      (go_at_call 39; (with_reducible refine (c_arePitches _ lb 4 4 _ HR2.out).mono ?_); rintro e w2 ⟨rfl, hb2⟩; rw [hvb])
      go_wp2
      go_ret
      exact ⟨ret_int HF.out.symm, hb1.trans (hb2.mono hb1.size)⟩
    · have HVA := Lib.hid hva
      have HVB := Lib.hid hvb
      have hla : la.length = 4 := by have := (arePits_iff.1 hva).1; omega
      have hlb : lb.length = 4 := by have := (arePits_iff.1 hvb).1; omega
      have HLA := Lib.hid hla
      have HLB := Lib.hid hlb
      clear hla hlb
      go_enter Try.func15, Try.ntmps15
      go_wp2_with fail
      (go_at_call 39; (with_reducible refine (c_arePitches _ la 4 4 _ H1.out).mono ?_); rintro e w1 ⟨rfl, hb1⟩; rw [hva])
      have HR1 := Lib.hid (H1.out.below (Nat.le_refl _) hb1)
      have HR2 := Lib.hid (H2.out.below (Nat.le_refl _) hb1)
      go_wp2_with fail
      (go_at_call 39; (with_reducible refine (c_arePitches _ lb 4 4 _ HR2.out).mono ?_); rintro e w2 ⟨rfl, hb2⟩; rw [hvb])
      have HQ1 := Lib.hid (HR1.out.below (Nat.le_refl _) hb2)
      have HQ2 := Lib.hid (HR2.out.below (Nat.le_refl _) hb2)
      have S := hb1.trans (hb2.mono hb1.size)
      clear hva hvb hb1 hb2
      go_wp2_with fail
      (go_at_call 49; (with_reducible refine (c_parallel _ _ la lb 7 _ HQ1.out HQ2.out HLA.out HLB.out).mono ?_); rintro e w3 ⟨rfl, hb3⟩)
      have HR1 := Lib.hid (HQ1.out.below (Nat.le_refl _) hb3)
      have HR2 := Lib.hid (HQ2.out.below (Nat.le_refl _) hb3)
      have S := S.trans (hb3.mono S.size)
      cases hp7 : parB la lb 7
      · have H7 := Lib.hid (parB_not.1 hp7)
        go_wp2_with fail
        (go_at_call 49; (with_reducible refine (c_parallel _ _ la lb 0 _ HR1.out HR2.out HLA.out HLB.out).mono ?_); rintro e w4 ⟨rfl, hb4⟩)
        have HQ1 := Lib.hid (HR1.out.below (Nat.le_refl _) hb4)
        have HQ2 := Lib.hid (HR2.out.below (Nat.le_refl _) hb4)
        have S := S.trans (hb4.mono S.size)
        cases hp0 : parB la lb 0
        · have H0 := Lib.hid (parB_not.1 hp0)
          have HS := Lib.hid S
          obtain ⟨_, A3, c3, he3, _, _, hA3⟩ := HQ1.out
          cases he3
          obtain ⟨b1, o1, rfl, hc1⟩ := hA3 (by have := HLA.out; omega)
          obtain ⟨_, A4, c4, he4, _, _, hA4⟩ := HQ2.out
          cases he4
          obtain ⟨b2, o2, rfl, hc2⟩ := hA4 (by have := HLB.out; omega)
          have HC1 := Lib.hid hc1
          have HC2 := Lib.hid hc2
          clear hA3 hA4 hc1 hc2 hp7 hp0 hb3 hb4 S
          go_wp2_with fail
          go_loopw [23] (fun s wr => ∃ i : Nat, i ≤ 4 ∧ s = .int .i64 i ∧ Below w4.heap.size w4 wr ∧ NoL la lb i) (fun s _ => 4 - (intOf s).toNat)
          case atStart => exact ⟨0, by omega, rfl, Below.refl _ _, fun i hi => absurd hi (by omega)⟩
          case round =>
            obtain ⟨i, hi, rfl, hbl, hok⟩ := hrel
            have HOK := Lib.hid hok
            have hz := hbl.size
            have hla2 : 4 ≤ la.length := by have := HLA.out; omega
            have hlb2 : 4 ≤ lb.length := by have := HLB.out; omega
            clear hok
            by_cases hlt : i < 4
            · obtain ⟨⟨Ps, Pa, Po⟩, hpP, cP0, cP1, cP2⟩ := pit_get (W := wr) (ns := lb) (fun j u hu => below_cell hbl (HC2.out j u hu)) i (by omega)
              dsimp only at cP0 cP1 cP2
              obtain ⟨P, heP⟩ : ∃ X, keyOf ⟨Ps, Pa, Po⟩ = X := ⟨_, rfl⟩
              have hbP := keyOf_bd ⟨Ps, Pa, Po⟩
              rw [heP] at hpP hbP
              have HKP := Lib.hid (fun w => show Calls Try.prog 13 #[.agg #[.int .i64 Ps, .int .i64 Pa, .int .i64 Po]] w fun e w' => e = .returned (.int .i64 P) ∧ Below w.heap.size w w' by have := c_PitchKey ⟨Ps, Pa, Po⟩ w; rw [heP] at this; exact this)
              have HPP := Lib.hid hpP
              obtain ⟨hbP1, hbP2⟩ := hbP
              clear hpP heP
              obtain ⟨⟨Qs, Qa, Qo⟩, hpQ, cQ0, cQ1, cQ2⟩ := pit_get (W := wr) (ns := la) (fun j u hu => below_cell hbl (HC1.out j u hu)) i (by omega)
              dsimp only at cQ0 cQ1 cQ2
              obtain ⟨Q, heQ⟩ : ∃ X, keyOf ⟨Qs, Qa, Qo⟩ = X := ⟨_, rfl⟩
              have hbQ := keyOf_bd ⟨Qs, Qa, Qo⟩
              rw [heQ] at hpQ hbQ
              have HKQ := Lib.hid (fun w => show Calls Try.prog 13 #[.agg #[.int .i64 Qs, .int .i64 Qa, .int .i64 Qo]] w fun e w' => e = .returned (.int .i64 Q) ∧ Below w.heap.size w w' by have := c_PitchKey ⟨Qs, Qa, Qo⟩ w; rw [heQ] at this; exact this)
              have HPQ := Lib.hid hpQ
              obtain ⟨hbQ1, hbQ2⟩ := hbQ
              clear hpQ heQ
              have hi1 : (0 : Int) ≤ (i : Int) := by omega
              have hi4 : (i : Int) < 4 := by omega
              have hi2 : (i : Int) < (la.length : Int) := by omega
              have hi3 : (i : Int) < (lb.length : Int) := by omega
              obtain ⟨D, hD⟩ : ∃ D, (if Q - P ≤ P - Q then P - Q else Q - P) = D := ⟨_, rfl⟩
              have HD := Lib.hid (fun w => show Calls Try.prog 50 #[.int .i64 Q, .int .i64 P] w fun e w' => e = .returned (.int .i64 D) ∧ w = w' by have := c_distance Q P w (by omega) (by omega); rw [hD] at this; exact this)
              by_cases hc : 12 < D
              · have HF := Lib.hid (moveF_7 HVA.out HVB.out H7.out H0.out ⟨i, hlt, by rw [HPP.out, HPQ.out]; split at hD <;> omega⟩)
                clear hD
                go_wp2_with fail
                (refine wp_region_more_lit (by kernel_rfl) (by kernel_rfl) ?_; (repeat (go_big_quiet_step ((first | (go_at_call 13; with_reducible exact Calls.more_of (HKP.out _)) | (go_at_call 13; with_reducible exact Calls.more_of (HKQ.out _)) | (go_at_call 50; with_reducible exact Calls.more_same (HD.out _)))))); refine wpQuiet_nil ?_; intro wq hwq; have hbq := below_of_more hwq; clear hwq; have hzq := hbq.size; (try simp only [size_alloc', size_setCell', size_drew', size_drewN'] at hzq); (try (refine keep_heap (b := w.heap.size) hbq ?_ ?_; (first | omega | (simp only [size_alloc', size_setCell', size_drew', size_drewN']; omega)); intro hkq; simp only [heap_alloc_get, heap_setCell_get, heap_drew_get, heap_drewN_get, size_alloc', size_setCell', size_drew', size_drewN', nat_simp1, nat_simp2, nat_simp3, nat_simp4, nat_simp5, if_true, if_false, *] at hkq; obtain ⟨_, _⟩ := blk_facts hkq)); skip)
                go_wp2
                go_ret
                exact ⟨ret_int HF.out.symm, HS.out.trans ((hbl.trans (hbq.mono hz)).mono HS.out.size)⟩
              · have HN := Lib.hid (HOK.out.next (by rw [HPP.out, HPQ.out]; split at hD <;> omega))
                clear hD
                go_wp2_with fail
                (refine wp_region_more_lit (by kernel_rfl) (by kernel_rfl) ?_; (repeat (go_big_quiet_step ((first | (go_at_call 13; with_reducible exact Calls.more_of (HKP.out _)) | (go_at_call 13; with_reducible exact Calls.more_of (HKQ.out _)) | (go_at_call 50; with_reducible exact Calls.more_same (HD.out _)))))); refine wpQuiet_nil ?_; intro wq hwq; have hbq := below_of_more hwq; clear hwq; have hzq := hbq.size; (try simp only [size_alloc', size_setCell', size_drew', size_drewN'] at hzq); (try (refine keep_heap (b := w.heap.size) hbq ?_ ?_; (first | omega | (simp only [size_alloc', size_setCell', size_drew', size_drewN']; omega)); intro hkq; simp only [heap_alloc_get, heap_setCell_get, heap_drew_get, heap_drewN_get, size_alloc', size_setCell', size_drew', size_drewN', nat_simp1, nat_simp2, nat_simp3, nat_simp4, nat_simp5, if_true, if_false, *] at hkq; obtain ⟨_, _⟩ := blk_facts hkq)); skip)
                go_wp2
                go_roundw
                case rel => exact ⟨i + 1, by omega, by go_num, hbl.trans (hbq.mono hz), HN.out⟩
                case measure => simp [intOf]; omega
            · obtain rfl : i = 4 := by omega
              have HF := Lib.hid (moveF_0 HVA.out HVB.out H7.out H0.out HOK.out.all)
              go_wp2
              go_ret
              exact ⟨ret_int HF.out.symm, HS.out.trans (hbl.mono HS.out.size)⟩
        · have HF := Lib.hid (moveF_6 HVA.out HVB.out H7.out (parB_iff.1 hp0))
          go_wp2
          go_ret
          exact ⟨ret_int HF.out.symm, S⟩
      · have HF := Lib.hid (moveF_5 HVA.out HVB.out (parB_iff.1 hp7))
        go_wp2
        go_ret
        exact ⟨ret_int HF.out.symm, S⟩
end Go.Proofs.Ytlhekgjckjcbhaa
