/- The walk of FnShiftVoice. Conditions: none. -/
import Derived.Test.YthkaofnciaommaaR8
import Derived.Test.YthkaofnciaommaaR7
namespace Go.Proofs.Ythkaofnciaommaa
open Go.RowKit
set_option linter.unusedSimpArgs false
set_option linter.unusedVariables false
set_option maxHeartbeats 8000000
theorem shiftV_ticks {i : Iv} {ns out : List Nt} (h : shiftV ns i = some out) : voiceT out = voiceT ns := by
  obtain ⟨h1, h2, h3⟩ := shiftV_some h
  unfold voiceT
  rw [if_pos h1, if_pos (shiftL_valid h1 h3), shiftL_ticks h3]
theorem walk_FnShiftVoice (w : World) (v : Value) (bs : List Int) (h : Rd w v 1 bs.length (byteCells bs)) (hb : ∀ x ∈ bs, 0 ≤ x ∧ x ≤ 255) :
    Calls Try.prog 12 #[v] w fun e w' => e = .returned (.bool true) ∧ Below w.heap.size w w' := by
  have h' := Lib.hid h
  obtain ⟨_, A, c0, rfl, hnc, hcm, hA⟩ := h
  unfold maxLen at hcm
  clear hA
  by_cases hlen : bs.length ≤ 1048576
  · go_enter Try.func12, Try.ntmps12
    go_wp2_with fail
    (go_at_call 35; (with_reducible refine (c_DrawShiftVoice _ bs _ h'.out hb).mono ?_); rintro e w1 ⟨v1, ns, ⟨a, b⟩, rfl, ho1, hl1, hb1⟩)
    have HV1 := Lib.hid (Rd.of_own ho1)
    have hz1 := hb1.size
    clear ho1
    have HA1 := Lib.hid (heap_alloc_new w1 (.cells #[.int .i64 a, .int .i64 b] 27))
    have SA := Below.refl (w1.heap.size + 1) (w1.alloc (.cells #[.int .i64 a, .int .i64 b] 27))
    have HR1 := Lib.hid (HV1.out.alloc (.cells #[.int .i64 a, .int .i64 b] 27))
    have S := hb1.alloc hz1 (.cells #[.int .i64 a, .int .i64 b] 27)
    cases hO : shiftV ns ⟨a, b⟩ with
    | none =>
      have HP := Lib.hid (show ∀ w e w', ShiftPost (shiftV ns ⟨a, b⟩) w e w' → WPost [] false w e w' from fun w e w' hp => by rw [hO] at hp; exact hp)
      clear hO
      go_wp2_with fail
      (go_at_call 36; (with_reducible refine (c_ShiftVoice _ ns ⟨a, b⟩ _ HR1.out).mono ?_); rintro e w2 hpost; obtain ⟨vg, rfl, hog, hlg, hb2⟩ := HP.out _ _ _ hpost; clear hpost)
      have S := S.trans (hb2.mono S.size)
      have hh2 := below_heap hb2 HA1.out
      obtain ⟨_, _⟩ := blk_facts hh2
      have HH2 := Lib.hid hh2
      have HR2 := Lib.hid (HR1.out.below (Nat.le_refl _) hb2)
      obtain ⟨_, Ag, cg, rfl, hcg1, hcg2, hcg3⟩ := Rd.of_own hog
      have HG2 := Lib.hid (show Rd w2 (.slice Ag 0 cg) 6 ([] : List Nt).length (ntCells []) from Rd.of_own hog)
      clear hog hcg3 hh2
      go_wp2_with fail
      (go_at_call 37; (with_reducible refine (c_sShiftVoice _ ns ⟨a, b⟩ _ HR2.out).mono ?_); rintro e w3 hpost; obtain ⟨vw, rfl, how, hlw, hb3⟩ := HP.out _ _ _ hpost; clear hpost)
      have S := S.trans (hb3.mono S.size)
      have HG3 := Lib.hid (HG2.out.below (Nat.le_refl _) hb3)
      have HR3 := Lib.hid (HR2.out.below (Nat.le_refl _) hb3)
      have HW3 := Lib.hid (Rd.of_own how)
      have hh3 := below_heap hb3 HH2.out
      clear how
      go_wp2_with fail
      (go_at_call 31; (with_reducible refine (c_sameVoice_eq _ _ ([] : List Nt) _ HG3.out HW3.out).mono ?_); rintro e w4 ⟨rfl, hb4⟩)
      have S := S.trans (hb4.mono S.size)
      have HG4 := Lib.hid (HG3.out.below (Nat.le_refl _) hb4)
      have HR4 := Lib.hid (HR3.out.below (Nat.le_refl _) hb4)
      have hh4 := below_heap hb4 hh3
      obtain ⟨_, _⟩ := blk_facts hh4
      clear hh3
      go_wp2_with fail
      (go_at_call 17; (with_reducible refine (c_alive _).mono ?_); rintro e w5 ⟨rfl, hb5⟩)
      have S := S.trans (hb5.mono S.size)
      go_wp2
      go_ret
      exact ⟨rfl, S⟩
    | some out =>
      have HP := Lib.hid (show ∀ w e w', ShiftPost (shiftV ns ⟨a, b⟩) w e w' → WPost out true w e w' from fun w e w' hp => by rw [hO] at hp; exact hp)
      obtain ⟨hvo, hbk⟩ := shiftV_back hO
      have HQ := Lib.hid (show ∀ w e w', ShiftPost (shiftV out (backIv ⟨a, b⟩)) w e w' → WPost ns true w e w' from fun w e w' hp => by rw [hbk] at hp; exact hp)
      have HT := Lib.hid (shiftV_ticks hO)
      have HVO := Lib.hid hvo
      clear hO hbk hvo
      go_wp2_with fail
      (go_at_call 36; (with_reducible refine (c_ShiftVoice _ ns ⟨a, b⟩ _ HR1.out).mono ?_); rintro e w2 hpost; obtain ⟨vg, rfl, hog, hlg, hb2⟩ := HP.out _ _ _ hpost; clear hpost)
      have S := S.trans (hb2.mono S.size)
      have hh2 := below_heap hb2 HA1.out
      obtain ⟨_, _⟩ := blk_facts hh2
      have HH2 := Lib.hid hh2
      have HR2 := Lib.hid (HR1.out.below (Nat.le_refl _) hb2)
      obtain ⟨_, Ag, cg, rfl, hcg1, hcg2, hcg3⟩ := Rd.of_own hog
      have HG2 := Lib.hid (Rd.of_own hog)
      clear hog hcg3 hh2
      go_wp2_with fail
      (go_at_call 37; (with_reducible refine (c_sShiftVoice _ ns ⟨a, b⟩ _ HR2.out).mono ?_); rintro e w3 hpost; obtain ⟨vw, rfl, how, hlw, hb3⟩ := HP.out _ _ _ hpost; clear hpost)
      have S := S.trans (hb3.mono S.size)
      have HG3 := Lib.hid (HG2.out.below (Nat.le_refl _) hb3)
      have HR3 := Lib.hid (HR2.out.below (Nat.le_refl _) hb3)
      have HW3 := Lib.hid (Rd.of_own how)
      have hh3 := below_heap hb3 HH2.out
      clear how
      go_wp2_with fail
      (go_at_call 31; (with_reducible refine (c_sameVoice_eq _ _ out _ HG3.out HW3.out).mono ?_); rintro e w4 ⟨rfl, hb4⟩)
      have S := S.trans (hb4.mono S.size)
      have HG4 := Lib.hid (HG3.out.below (Nat.le_refl _) hb4)
      have HR4 := Lib.hid (HR3.out.below (Nat.le_refl _) hb4)
      have hh4 := below_heap hb4 hh3
      obtain ⟨_, _⟩ := blk_facts hh4
      clear hh3
      go_wp2_with fail
      (go_at_call 38; (with_reducible refine (c_IntervalBack a b _).mono ?_); rintro e w5 ⟨rfl, hb5⟩)
      have S := S.trans (hb5.mono S.size)
      have HG5 := Lib.hid (HG4.out.below (Nat.le_refl _) hb5)
      have HR5 := Lib.hid (HR4.out.below (Nat.le_refl _) hb5)
      go_wp2_with fail
      (go_at_call 36; (with_reducible refine (c_ShiftVoice _ out (backIv ⟨a, b⟩) _ HG5.out).mono ?_); rintro e w6 hpost; obtain ⟨vk, rfl, hok, hlk, hb6⟩ := HQ.out _ _ _ hpost; clear hpost)
      have S := S.trans (hb6.mono S.size)
      have HG6 := Lib.hid (HG5.out.below (Nat.le_refl _) hb6)
      have HR6 := Lib.hid (HR5.out.below (Nat.le_refl _) hb6)
      have HK6 := Lib.hid (Rd.of_own hok)
      clear hok
      go_wp2_with fail
      (go_at_call 39; (with_reducible refine (c_VoiceValid _ out _ HG6.out).mono ?_); rintro e w7 ⟨rfl, hb7⟩; rw [HVO.out])
      have S := S.trans (hb7.mono S.size)
      have HG7 := Lib.hid (HG6.out.below (Nat.le_refl _) hb7)
      have HR7 := Lib.hid (HR6.out.below (Nat.le_refl _) hb7)
      have HK7 := Lib.hid (HK6.out.below (Nat.le_refl _) hb7)
      go_wp2_with fail
      (go_at_call 31; (with_reducible refine (c_sameVoice_eq _ _ ns _ HK7.out HR7.out).mono ?_); rintro e w8 ⟨rfl, hb8⟩)
      have S := S.trans (hb8.mono S.size)
      have HG8 := Lib.hid (HG7.out.below (Nat.le_refl _) hb8)
      have HR8 := Lib.hid (HR7.out.below (Nat.le_refl _) hb8)
      go_wp2_with fail
      (go_at_call 40; (with_reducible refine (c_VoiceTicks _ out _ HG8.out).mono ?_); rintro e w9 ⟨rfl, hb9⟩; rw [HT.out])
      have S := S.trans (hb9.mono S.size)
      have HR9 := Lib.hid (HR8.out.below (Nat.le_refl _) hb9)
      go_wp2_with fail
      (go_at_call 40; (with_reducible refine (c_VoiceTicks _ ns _ HR9.out).mono ?_); rintro e w10 ⟨rfl, hb10⟩)
      have S := S.trans (hb10.mono S.size)
      go_wp2_with fail
      go_ret
      exact ⟨rfl, S⟩
  · go_enter Try.func12, Try.ntmps12
    go_wp2_with fail
    go_ret
    exact ⟨rfl, Below.refl _ _⟩
end Go.Proofs.Ythkaofnciaommaa
