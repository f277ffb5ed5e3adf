/- The walk of FnShiftTwo. Conditions: none. -/
import Derived.Test.YthkaofnciaommaaR9
import Derived.Test.YthkaofnciaommaaRA
namespace Go.Proofs.Ythkaofnciaommaa
open Go.RowKit
set_option linter.unusedSimpArgs false
set_option linter.unusedVariables false
set_option maxHeartbeats 8000000
theorem post_of (ns : List Nt) (i : Iv) : ∃ L bb, Hid (∀ w e w', ShiftPost (shiftV ns i) w e w' → WPost L bb w e w') ∧ Hid (bb = true → shiftV ns i = some L) := by
  refine ⟨(shiftV ns i).getD [], (shiftV ns i).isSome, Lib.hid fun _ _ _ h => h, Lib.hid fun h => ?_⟩
  cases hh : shiftV ns i with
  | none => rw [hh] at h; cases h
  | some o => rfl
theorem walk_FnShiftTwo (w : World) (v : Value) (bs : List Int) (h : Rd w v 1 bs.length (byteCells bs)) (hb : ∀ x ∈ bs, 0 ≤ x ∧ x ≤ 255) :
    Calls Try.prog 11 #[v] w fun e w' => e = .returned (.bool true) ∧ Below w.heap.size w w' := by
  have h' := Lib.hid h
  obtain ⟨_, A, c0, rfl, hnc, hcm, hA⟩ := h
  unfold maxLen at hcm
  clear hA
  by_cases hlen : bs.length ≤ 1048576
  · go_enter Try.func11, Try.ntmps11
    go_wp2_with fail
    (go_at_call 35; (with_reducible refine (c_DrawShiftVoice _ bs _ h'.out hb).mono ?_); rintro e w1 ⟨v1, ns, ⟨a, b⟩, rfl, ho1, hl1, hb1⟩)
    have HV1 := Lib.hid (Rd.of_own ho1)
    have hz1 := hb1.size
    clear ho1
    have HA1 := Lib.hid (heap_alloc_new w1 (.cells #[.int .i64 a, .int .i64 b] 27))
    have HR1 := Lib.hid (HV1.out.alloc (.cells #[.int .i64 a, .int .i64 b] 27))
    have S := hb1.alloc hz1 (.cells #[.int .i64 a, .int .i64 b] 27)
    obtain ⟨L0, b0, HP0, _⟩ := post_of ns ⟨a, b⟩
    obtain ⟨L1, b1, HP1, HE1⟩ := post_of ns ⟨7, 12⟩
    obtain ⟨L2, b2, HP2, HE2⟩ := post_of L1 ⟨-4, -7⟩
    obtain ⟨L3, b3, HP3, HE3⟩ := post_of ns ⟨3, 5⟩
    have HEQ := Lib.hid (show b1 = true → b2 = true → b3 = true → L2 = L3 from fun h1 h2 h3 => Option.some.inj ((shiftV_two iv35 (by decide) (by decide) (HE1.out h1) (HE2.out h2)).symm.trans (HE3.out h3)))
    clear HE1 HE2 HE3
    go_wp2_with fail
    (go_at_call 36; (with_reducible refine (c_ShiftVoice _ ns ⟨a, b⟩ _ HR1.out).mono ?_); rintro e w2 hpost; obtain ⟨vg, rfl, hog, hlg, hb2⟩ := HP0.out _ _ _ hpost; clear hpost)
    have S := S.trans (hb2.mono S.size)
    have hh2 := below_heap hb2 HA1.out
    obtain ⟨_, _⟩ := blk_facts hh2
    have HR2 := Lib.hid (HR1.out.below (Nat.le_refl _) hb2)
    have HG2 := Lib.hid (Rd.of_own hog)
    clear hog hh2
    go_wp2_with fail
    (go_at_call 37; (with_reducible refine (c_sShiftVoice _ ns ⟨a, b⟩ _ HR2.out).mono ?_); rintro e w3 hpost; obtain ⟨vw, rfl, how, hlw, hb3⟩ := HP0.out _ _ _ hpost; clear hpost)
    have S := S.trans (hb3.mono S.size)
    have HG3 := Lib.hid (HG2.out.below (Nat.le_refl _) hb3)
    have HR3 := Lib.hid (HR2.out.below (Nat.le_refl _) hb3)
    have HW3 := Lib.hid (Rd.of_own how)
    clear how
    go_wp2_with fail
    (go_at_call 31; (with_reducible refine (c_sameVoice_eq _ _ L0 _ HG3.out HW3.out).mono ?_); rintro e w4 ⟨rfl, hb4⟩)
    have S := S.trans (hb4.mono S.size)
    have HR4 := Lib.hid (HR3.out.below (Nat.le_refl _) hb4)
    go_wp2_with fail
    (go_at_call 36; (with_reducible refine (c_ShiftVoice _ ns ⟨7, 12⟩ _ HR4.out).mono ?_); rintro e w5 hpost; obtain ⟨u1, rfl, ho5, hl5, hb5⟩ := HP1.out _ _ _ hpost; clear hpost)
    have S := S.trans (hb5.mono S.size)
    have HR5 := Lib.hid (HR4.out.below (Nat.le_refl _) hb5)
    have HU5 := Lib.hid (Rd.of_own ho5)
    clear ho5
    go_wp2_with fail
    (go_at_call 36; (with_reducible refine (c_ShiftVoice _ L1 ⟨-4, -7⟩ _ HU5.out).mono ?_); rintro e w6 hpost; obtain ⟨u2, rfl, ho6, hl6, hb6⟩ := HP2.out _ _ _ hpost; clear hpost)
    have S := S.trans (hb6.mono S.size)
    have HR6 := Lib.hid (HR5.out.below (Nat.le_refl _) hb6)
    have HU6 := Lib.hid (Rd.of_own ho6)
    clear ho6
    go_wp2_with fail
    (go_at_call 36; (with_reducible refine (c_ShiftVoice _ ns ⟨3, 5⟩ _ HR6.out).mono ?_); rintro e w7 hpost; obtain ⟨u3, rfl, ho7, hl7, hb7⟩ := HP3.out _ _ _ hpost; clear hpost)
    have S := S.trans (hb7.mono S.size)
    have HU7 := Lib.hid (HU6.out.below (Nat.le_refl _) hb7)
    have HX7 := Lib.hid (Rd.of_own ho7)
    clear ho7
    cases b1
    · go_wp2_with (go_at_call 17; (with_reducible refine (c_alive _).mono ?_); rintro e w9 ⟨rfl, hb9⟩)
      go_ret
      exact ⟨rfl, S.trans (hb9.mono S.size)⟩
    · cases b2
      · go_wp2_with (go_at_call 17; (with_reducible refine (c_alive _).mono ?_); rintro e w9 ⟨rfl, hb9⟩)
        go_ret
        exact ⟨rfl, S.trans (hb9.mono S.size)⟩
      · cases b3
        · go_wp2_with (go_at_call 17; (with_reducible refine (c_alive _).mono ?_); rintro e w9 ⟨rfl, hb9⟩)
          go_ret
          exact ⟨rfl, S.trans (hb9.mono S.size)⟩
        · have he := HEQ.out rfl rfl rfl
          subst he
          go_wp2_with fail
          (go_at_call 31; (with_reducible refine (c_sameVoice_eq _ _ L2 _ HU7.out HX7.out).mono ?_); rintro e w8 ⟨rfl, hb8⟩)
          have S := S.trans (hb8.mono S.size)
          go_wp2_with (go_at_call 17; (with_reducible refine (c_alive _).mono ?_); rintro e w9 ⟨rfl, hb9⟩)
          go_ret
          exact ⟨rfl, S.trans (hb9.mono S.size)⟩
  · go_enter Try.func11, Try.ntmps11
    go_wp2_with fail
    go_ret
    exact ⟨rfl, Below.refl _ _⟩
end Go.Proofs.Ythkaofnciaommaa
