/- The walk of FnRangeFault. Conditions: none. -/
import Derived.Test.YthkaofnciaommaaRD
import Derived.Test.YthkaofnciaommaaNB
namespace Go.Proofs.Ythkaofnciaommaa
open Go.RowKit
set_option linter.unusedSimpArgs false
set_option linter.unusedVariables false
set_option maxHeartbeats 8000000
theorem walk_FnRangeFault (w : World) (v : Value) (bs : List Int) (h : Rd w v 1 bs.length (byteCells bs)) (hb : ∀ x ∈ bs, 0 ≤ x ∧ x ≤ 255) :
    Calls Try.prog 6 #[v] w fun e w' => e = .returned (.bool true) ∧ Below w.heap.size w w' := by
  have h' := Lib.hid h
  obtain ⟨_, A, c0, rfl, hnc, hcm, hA⟩ := h
  unfold maxLen at hcm
  clear hA
  by_cases hlen : bs.length ≤ 1048576
  · go_enter Try.func6, Try.ntmps6
    go_wp2_with fail
    (go_at_call 23; (with_reducible refine (c_DrawRangeFault _ bs _ h'.out hb).mono ?_); rintro e w1 ⟨v1, ns, ⟨s, h, l, m⟩, rfl, ho1, hl1, hb1⟩)
    have HV1 := Lib.hid (Rd.of_own ho1)
    have hz1 := hb1.size
    obtain ⟨_, A1, c1, rfl, hn1, hm1, _⟩ := Rd.of_own ho1
    unfold maxLen at hm1
    have HV1 := Lib.hid (show Rd w1 (.slice A1 ns.length c1) 6 ns.length (ntCells ns) from HV1.out)
    clear ho1
    have HA1 := Lib.hid (heap_alloc_new w1 (.cells #[.int .i64 s, .int .i64 h, .int .i64 l, .int .i64 m] 29))
    have HR1 := Lib.hid (HV1.out.alloc (.cells #[.int .i64 s, .int .i64 h, .int .i64 l, .int .i64 m] 29))
    have S := hb1.alloc hz1 (.cells #[.int .i64 s, .int .i64 h, .int .i64 l, .int .i64 m] 29)
    obtain ⟨F, hF⟩ : ∃ F, faultV ⟨s, h, l, m⟩ ns = F := ⟨_, rfl⟩
    have HF := Lib.hid hF
    clear hF
    go_wp2_with fail
    (go_at_call 21; (with_reducible refine (c_RangeFault s h l m _ ns _ HR1.out).mono ?_); rintro e w2 ⟨rfl, hb2⟩; rw [HF.out])
    have S := S.trans (hb2.mono S.size)
    have hhc := below_heap hb2 HA1.out
    have HX2 := Lib.hid hhc
    obtain ⟨_, _⟩ := blk_facts hhc
    clear hhc
    have HR2 := Lib.hid (HR1.out.below (Nat.le_refl _) hb2)
    go_wp2_with fail
    (go_at_call 19; (with_reducible refine (c_sRangeFault s h l m _ ns _ HR2.out).mono ?_); rintro e w3 ⟨rfl, hb3⟩; rw [HF.out])
    have S := S.trans (hb3.mono S.size)
    have hhc := below_heap hb3 HX2.out
    have HX3 := Lib.hid hhc
    obtain ⟨_, _⟩ := blk_facts hhc
    clear hhc
    have HR3 := Lib.hid (HR2.out.below (Nat.le_refl _) hb3)
    cases h1 : insValid ⟨s, h, l, m⟩
    · have hFn : F = -1 := HF.out.symm.trans (fault_no (by rw [h1]; simp))
      subst hFn
      go_wp2_with fail
      (go_at_call 13; (with_reducible refine (c_sInstrumentValid s h l m _).mono ?_); rintro e w4 ⟨rfl, hb4⟩; rw [h1])
      have S := S.trans (hb4.mono S.size)
      go_wp2_with fail
      (go_at_call 17; (with_reducible refine (c_alive _).mono ?_); rintro e w5 ⟨rfl, hb5⟩)
      have S := S.trans (hb5.mono S.size)
      go_wp2
      go_ret
      exact ⟨rfl, S⟩
    · cases h2 : voiceValid ns
      · have hFn : F = -1 := HF.out.symm.trans (fault_no (by rw [h2]; simp))
        subst hFn
        go_wp2_with fail
        (go_at_call 13; (with_reducible refine (c_sInstrumentValid s h l m _).mono ?_); rintro e w4 ⟨rfl, hb4⟩; rw [h1])
        have S := S.trans (hb4.mono S.size)
        have HR4 := Lib.hid (HR3.out.below (Nat.le_refl _) hb4)
        go_wp2_with fail
        (go_at_call 24; (with_reducible refine (c_sVoiceValid _ ns _ HR4.out).mono ?_); rintro e w5 ⟨rfl, hb5⟩; rw [h2])
        have S := S.trans (hb5.mono S.size)
        go_wp2_with fail
        (go_at_call 17; (with_reducible refine (c_alive _).mono ?_); rintro e w6 ⟨rfl, hb6⟩)
        have S := S.trans (hb6.mono S.size)
        go_wp2
        go_ret
        exact ⟨rfl, S⟩
      · have HVA := Lib.hid (And.intro h1 h2)
        go_wp2_with fail
        (go_at_call 13; (with_reducible refine (c_sInstrumentValid s h l m _).mono ?_); rintro e w4 ⟨rfl, hb4⟩; rw [h1])
        have S := S.trans (hb4.mono S.size)
        have hhc := below_heap hb4 HX3.out
        have HX4 := Lib.hid hhc
        obtain ⟨_, _⟩ := blk_facts hhc
        clear hhc
        have HR4 := Lib.hid (HR3.out.below (Nat.le_refl _) hb4)
        go_wp2_with fail
        (go_at_call 24; (with_reducible refine (c_sVoiceValid _ ns _ HR4.out).mono ?_); rintro e w5 ⟨rfl, hb5⟩; rw [h2])
        have S := S.trans (hb5.mono S.size)
        have HX5 := Lib.hid (below_heap hb5 HX4.out)
        obtain ⟨_, A5, c5, he5, _, _, hA5⟩ := HR4.out.below (Nat.le_refl _) hb5
        cases he5
        have HAA := Lib.hid hA5
        have HS5 := Lib.hid S
        clear hA5 h1 h2
        go_wp2
        go_loopw [6, 7] (fun j _ wr => ∃ k : Nat, k ≤ ns.length ∧ j = .int .i64 k ∧ Below w5.heap.size w5 wr ∧ ∀ j (hj : j < ns.length), j < k → faultAt ⟨s, h, l, m⟩ ns[j] = false) (fun j _ _ => ns.length - (intOf j).toNat)
        case atStart => exact ⟨0, Nat.zero_le _, rfl, Below.refl _ _, fun j _ hj => absurd hj (by omega)⟩
        case round =>
          obtain ⟨k, hk, rfl, hbl, hok⟩ := hrel
          have HOK := Lib.hid hok
          clear hok
          have hz := hbl.size
          by_cases hlt : k < ns.length
          · obtain ⟨b, off, rfl, hcc⟩ := HAA.out (by omega)
            have hk1 : (0 : Int) ≤ (k : Int) := by omega
            have hk2 : (k : Int) < (ns.length : Int) := by omega
            obtain ⟨p0, p1, p2, p3, p4, p5⟩ := nt_at (rd_later hbl hcc) k hlt
            have HHit := Lib.hid (fun hf => fault_hit HVA.out.1 HVA.out.2 hlt HOK.out hf)
            have HSt := Lib.hid (fun (hf : faultAt ⟨s, h, l, m⟩ ns[k] = false) => show ∀ j (hj : j < ns.length), j < k + 1 → faultAt ⟨s, h, l, m⟩ ns[j] = false from fun j hj hjk => by
              rcases Nat.lt_succ_iff_lt_or_eq.1 hjk with h3 | rfl
              · exact HOK.out j hj h3
              · exact hf)
            generalize ns[k] = n0 at *
            obtain ⟨r0, ⟨s0, a0, o0⟩, t0, td0⟩ := n0
            clear hcc
            go_wp2_with fail
            (go_at_call 25; (with_reducible refine (c_PitchKey ⟨s0, a0, o0⟩ _).mono ?_); rintro e w6 ⟨rfl, hb6⟩)
            have hbl6 := hbl.trans (hb6.mono hz)
            have q0 := below_cell hb6 p0
            have hX6 := below_heap hbl6 HX5.out
            obtain ⟨_, _⟩ := blk_facts hX6
            clear p0 p1 p2 p3 p4 p5
            obtain ⟨K, hK⟩ : ∃ K, keyOf ⟨s0, a0, o0⟩ = K := ⟨_, rfl⟩
            have HK := Lib.hid hK
            rw [hK]
            clear hK
            cases r0
            · by_cases g1 : K < l
              · have hFk : F = (k : Int) := HF.out.symm.trans (HHit.out (by
                  have : inB K l m = false := by rw [inB_not]; omega
                  simp [faultAt, HK.out, this]))
                go_wp2_with fail
                go_ret
                exact ⟨ret_bool (by simp), HS5.out.trans (hbl6.mono HS5.out.size)⟩
              · by_cases g2 : m < K
                · have hFk : F = (k : Int) := HF.out.symm.trans (HHit.out (by
                    have : inB K l m = false := by rw [inB_not]; omega
                    simp [faultAt, HK.out, this]))
                  go_wp2_with fail
                  go_ret
                  exact ⟨ret_bool (by simp), HS5.out.trans (hbl6.mono HS5.out.size)⟩
                · have HN := Lib.hid (HSt.out (by
                    have : inB K l m = true := by rw [inB_iff]; omega
                    simp [faultAt, HK.out, this]))
                  go_wp2_with fail
                  go_roundw
                  case rel => exact ⟨k + 1, by omega, by go_num, hbl6, HN.out⟩
                  case measure => simp [intOf]; omega
            · have HN := Lib.hid (HSt.out (by simp [faultAt]))
              go_wp2_with fail
              go_roundw
              case rel => exact ⟨k + 1, by omega, by go_num, hbl6, HN.out⟩
              case measure => simp [intOf]; omega
          · have hFn : F = -1 := HF.out.symm.trans (fault_none HVA.out.1 HVA.out.2 fun j hj _ => HOK.out j hj (by omega))
            go_wp2
            go_ret
            exact ⟨ret_bool (by simp), HS5.out.trans (hbl.mono HS5.out.size)⟩
  · go_enter Try.func6, Try.ntmps6
    go_wp2_with fail
    go_ret
    exact ⟨rfl, Below.refl _ _⟩
end Go.Proofs.Ythkaofnciaommaa
