/- The walk of FnSplitBeats. Conditions: none. -/
import Derived.Test.YtendoahanngacaaSB
import Derived.Test.YtendoahanngacaaG0
namespace Go.Proofs.Ytendoahanngacaa
open Go.RowKit
set_option linter.unusedSimpArgs false
set_option linter.unusedVariables false
set_option maxHeartbeats 8000000
theorem split_post (ns : List Nt) (i : Met) : ∃ L bb, Hid (∀ w e w', ShiftPost (splitB ns i) w e w' → WPost L bb w e w') ∧ Hid (bb = true → splitB ns i = some L) := by
  refine ⟨(splitB ns i).getD [], (splitB ns i).isSome, Lib.hid fun _ _ _ h => h, Lib.hid fun h => ?_⟩
  cases hh : splitB ns i with
  | none => rw [hh] at h; cases h
  | some o => rfl
theorem walk_FnSplitBeats (w : World) (v : Value) (bs : List Int) (h : Rd w v 1 bs.length (byteCells bs)) (hb : ∀ x ∈ bs, 0 ≤ x ∧ x ≤ 255) :
    Calls Try.prog 15 #[v] w fun e w' => e = .returned (.bool true) ∧ Below w.heap.size w w' := by
  have h' := Lib.hid h
  obtain ⟨_, A, c0, rfl, hnc, hcm, hA⟩ := h
  unfold maxLen at hcm
  clear hA
  by_cases hlen : bs.length ≤ 1048576
  · go_enter Try.func15, Try.ntmps15
    go_wp2_with fail
    (go_at_call 43; (with_reducible refine (c_DrawSplitBars _ bs _ h'.out hb).mono ?_); rintro e w1 ⟨v1, ns, ⟨b, u⟩, rfl, ho1, hl1, hb1⟩)
    have HV1 := Lib.hid (Rd.of_own ho1)
    have hz1 := hb1.size
    obtain ⟨_, A1, c1, rfl, hn1, hm1, _⟩ := Rd.of_own ho1
    unfold maxLen at hm1
    have HV1 := Lib.hid (show Rd w1 (.slice A1 ns.length c1) 6 ns.length (ntCells ns) from HV1.out)
    clear ho1
    have HA1 := Lib.hid (heap_alloc_new w1 (.cells #[.int .i64 b, .int .i64 u] 25))
    have HR1 := Lib.hid (HV1.out.alloc (.cells #[.int .i64 b, .int .i64 u] 25))
    have S := hb1.alloc hz1 (.cells #[.int .i64 b, .int .i64 u] 25)
    obtain ⟨L0, b0, HP0, HE0⟩ := split_post ns ⟨b, u⟩
    obtain ⟨L1, b1, HP1, HE1⟩ := split_post L0 ⟨1, u⟩
    obtain ⟨L2, b2, HP2, HE2⟩ := split_post ns ⟨1, u⟩
    have HEQ := Lib.hid (show b0 = true → b1 = true → b2 = true → L1 = L2 from fun h0 h1 h2 => splitB_beats (HE0.out h0) (HE1.out h1) (HE2.out h2))
    clear HE0 HE1 HE2
    go_wp2_with fail
    (go_at_call 42; (with_reducible refine (c_SplitBars _ ns ⟨b, u⟩ _ HR1.out).mono ?_); rintro e w2 hpost; obtain ⟨vg, rfl, hog, hlg, hb2⟩ := HP0.out _ _ _ hpost; clear hpost)
    have S := S.trans (hb2.mono S.size)
    have hhc := below_heap hb2 HA1.out
    have HX2 := Lib.hid hhc
    obtain ⟨_, _⟩ := blk_facts hhc
    clear hhc
    have HR2 := Lib.hid (HR1.out.below (Nat.le_refl _) hb2)
    have HG2 := Lib.hid (Rd.of_own hog)
    clear hog
    go_wp2_with fail
    (go_at_call 41; (with_reducible refine (c_sSplitBars _ ns ⟨b, u⟩ _ HR2.out).mono ?_); rintro e w3 hpost; obtain ⟨vw, rfl, how, hlw, hb3⟩ := HP0.out _ _ _ hpost; clear hpost)
    have S := S.trans (hb3.mono S.size)
    have hhc := below_heap hb3 HX2.out
    have HX3 := Lib.hid hhc
    obtain ⟨_, _⟩ := blk_facts hhc
    clear hhc
    have HG3 := Lib.hid (HG2.out.below (Nat.le_refl _) hb3)
    have HR3 := Lib.hid (HR2.out.below (Nat.le_refl _) hb3)
    have HW3 := Lib.hid (Rd.of_own how)
    clear how
    go_wp2_with fail
    (go_at_call 40; (with_reducible refine (c_sameVoice_eq _ _ L0 _ HG3.out HW3.out).mono ?_); rintro e w4 ⟨rfl, hb4⟩)
    have S := S.trans (hb4.mono S.size)
    have hhc := below_heap hb4 HX3.out
    have HX4 := Lib.hid hhc
    obtain ⟨_, _⟩ := blk_facts hhc
    clear hhc
    have HG4 := Lib.hid ((HG3.out.below (Nat.le_refl _) hb4).alloc (.cells #[.int .i64 1, .int .i64 u] 25))
    have HR4 := Lib.hid ((HR3.out.below (Nat.le_refl _) hb4).alloc (.cells #[.int .i64 1, .int .i64 u] 25))
    have HM4 := Lib.hid (heap_alloc_new w4 (.cells #[.int .i64 1, .int .i64 u] 25))
    have S := S.alloc S.size (.cells #[.int .i64 1, .int .i64 u] 25)
    go_wp2_with fail
    (go_at_call 42; (with_reducible refine (c_SplitBars _ L0 ⟨1, u⟩ _ HG4.out).mono ?_); rintro e w5 hpost; obtain ⟨va, rfl, hoa, hla, hb5⟩ := HP1.out _ _ _ hpost; clear hpost)
    have S := S.trans (hb5.mono S.size)
    have hhc := below_heap hb5 HM4.out
    have HX5 := Lib.hid hhc
    obtain ⟨_, _⟩ := blk_facts hhc
    clear hhc
    have HR5 := Lib.hid (HR4.out.below (Nat.le_refl _) hb5)
    have HA5 := Lib.hid (Rd.of_own hoa)
    clear hoa
    go_wp2_with fail
    (go_at_call 42; (with_reducible refine (c_SplitBars _ ns ⟨1, u⟩ _ HR5.out).mono ?_); rintro e w6 hpost; obtain ⟨vb, rfl, hob, hlb, hb6⟩ := HP2.out _ _ _ hpost; clear hpost)
    have S := S.trans (hb6.mono S.size)
    have HA6 := Lib.hid (HA5.out.below (Nat.le_refl _) hb6)
    have HB6 := Lib.hid (Rd.of_own hob)
    clear hob
    cases b0
    · go_wp2_with fail
      (go_at_call 24; (with_reducible refine (c_alive _).mono ?_); rintro e w9 ⟨rfl, hb9⟩)
      have S := S.trans (hb9.mono S.size)
      go_wp2
      go_ret
      exact ⟨rfl, S⟩
    · cases b1
      · go_wp2_with fail
        (go_at_call 24; (with_reducible refine (c_alive _).mono ?_); rintro e w9 ⟨rfl, hb9⟩)
        have S := S.trans (hb9.mono S.size)
        go_wp2
        go_ret
        exact ⟨rfl, S⟩
      · cases b2
        · go_wp2_with fail
          (go_at_call 24; (with_reducible refine (c_alive _).mono ?_); rintro e w9 ⟨rfl, hb9⟩)
          have S := S.trans (hb9.mono S.size)
          go_wp2
          go_ret
          exact ⟨rfl, S⟩
        · have he := HEQ.out rfl rfl rfl
          subst he
          go_wp2_with fail
          (go_at_call 40; (with_reducible refine (c_sameVoice_eq _ _ L1 _ HA6.out HB6.out).mono ?_); rintro e w8 ⟨rfl, hb8⟩)
          have S := S.trans (hb8.mono S.size)
          go_wp2_with fail
          (go_at_call 24; (with_reducible refine (c_alive _).mono ?_); rintro e w9 ⟨rfl, hb9⟩)
          have S := S.trans (hb9.mono S.size)
          go_wp2
          go_ret
          exact ⟨rfl, S⟩
  · go_enter Try.func15, Try.ntmps15
    go_wp2_with fail
    go_ret
    exact ⟨rfl, Below.refl _ _⟩
end Go.Proofs.Ytendoahanngacaa
