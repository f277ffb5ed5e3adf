/- The walks of FnWriteFor and FnSoundOf. Conditions: none. -/
import Derived.Test.YthkaofnciaommaaRD
import Derived.Test.YthkaofnciaommaaR9
namespace Go.Proofs.Ythkaofnciaommaa
open Go.RowKit
set_option linter.unusedSimpArgs false
set_option linter.unusedVariables false
set_option maxHeartbeats 8000000
theorem write_sound {i : Ins} {ns out : List Nt} (h : writeV i ns = some out) : soundV i out = some ns := by
  unfold writeV at h
  split at h
  · rename_i hv
    unfold soundV
    rw [if_pos hv]
    exact (shiftV_back h).2
  · cases h
theorem sound_write {i : Ins} {ns out : List Nt} (h : soundV i ns = some out) : writeV i out = some ns := by
  unfold soundV at h
  split at h
  · rename_i hv
    have hi : ivValid ⟨i.steps, i.halves⟩ = true := by
      unfold insValid at hv
      simp only [Bool.and_eq_true] at hv
      exact hv.1.1
    have hb := back_of hi
    have := (shiftV_back h).2
    unfold writeV
    rw [if_pos hv]
    rw [hb] at this
    rw [back_of (ivValid_neg hi)] at this
    simpa using this
  · cases h
theorem walk_FnWriteFor (w : World) (v : Value) (bs : List Int) (h : Rd w v 1 bs.length (byteCells bs)) (hb : ∀ x ∈ bs, 0 ≤ x ∧ x ≤ 255) :
    Calls Try.prog 8 #[v] w fun e w' => e = .returned (.bool true) ∧ Below w.heap.size w w' := by
  have h' := Lib.hid h
  obtain ⟨_, A, c0, rfl, hnc, hcm, hA⟩ := h
  unfold maxLen at hcm
  clear hA
  by_cases hlen : bs.length ≤ 1048576
  · go_enter Try.func8, Try.ntmps8
    go_wp2_with fail
    (go_at_call 30; (with_reducible refine (c_DrawWriteFor _ bs _ h'.out hb).mono ?_); rintro e w1 ⟨v1, ns, ⟨a, b, c, d⟩, rfl, ho1, hl1, hb1⟩)
    have HV1 := Lib.hid (Rd.of_own ho1)
    have hz1 := hb1.size
    clear ho1
    have HA1 := Lib.hid (heap_alloc_new w1 (.cells #[.int .i64 a, .int .i64 b, .int .i64 c, .int .i64 d] 29))
    have HR1 := Lib.hid (HV1.out.alloc (.cells #[.int .i64 a, .int .i64 b, .int .i64 c, .int .i64 d] 29))
    have S := hb1.alloc hz1 (.cells #[.int .i64 a, .int .i64 b, .int .i64 c, .int .i64 d] 29)
    cases hO : writeV ⟨a, b, c, d⟩ ns with
    | none =>
      have HP := Lib.hid (show ∀ w e w', ShiftPost (writeV ⟨a, b, c, d⟩ ns) w e w' → WPost [] false w e w' from fun w e w' hp => by rw [hO] at hp; exact hp)
      clear hO
      go_wp2_with fail
      (go_at_call 27; (with_reducible refine (c_WriteFor a b c d _ ns _ HR1.out).mono ?_); rintro e w2 hpost; obtain ⟨vg, rfl, hog, hlg, hb2⟩ := HP.out _ _ _ hpost; clear hpost)
      have S := S.trans (hb2.mono S.size)
      have hh2 := below_heap hb2 HA1.out
      obtain ⟨_, _⟩ := blk_facts hh2
      have HH2 := Lib.hid hh2
      have HR2 := Lib.hid (HR1.out.below (Nat.le_refl _) hb2)
      obtain ⟨_, Ag, cg, rfl, hcg1, hcg2, hcg3⟩ := Rd.of_own hog
      have HG2 := Lib.hid (show Rd w2 (.slice Ag 0 cg) 6 (([] : List Nt)).length (ntCells ([] : List Nt)) from Rd.of_own hog)
      clear hog hcg3 hh2
      go_wp2_with fail
      (go_at_call 26; (with_reducible refine (c_sWriteFor a b c d _ ns _ HR2.out).mono ?_); rintro e w3 hpost; obtain ⟨vw, rfl, how, hlw, hb3⟩ := HP.out _ _ _ hpost; clear hpost)
      have S := S.trans (hb3.mono S.size)
      have HG3 := Lib.hid (HG2.out.below (Nat.le_refl _) hb3)
      have HR3 := Lib.hid (HR2.out.below (Nat.le_refl _) hb3)
      have HW3 := Lib.hid (Rd.of_own how)
      have hh3 := below_heap hb3 HH2.out
      clear how
      go_wp2_with fail
      (go_at_call 31; (with_reducible refine (c_sameVoice_eq _ _ (([] : List Nt)) _ HG3.out HW3.out).mono ?_); rintro e w4 ⟨rfl, hb4⟩)
      have S := S.trans (hb4.mono S.size)
      have HG4 := Lib.hid (HG3.out.below (Nat.le_refl _) hb4)
      have HR4 := Lib.hid (HR3.out.below (Nat.le_refl _) hb4)
      have hh4 := below_heap hb4 hh3
      obtain ⟨_, _⟩ := blk_facts hh4
      clear hh3
      go_wp2_with fail
      (go_at_call 17; (with_reducible refine (c_alive _).mono ?_); rintro e w5 ⟨rfl, hb5⟩)
      have S := S.trans (hb5.mono S.size)
      go_wp2
      go_ret
      exact ⟨rfl, S⟩
    | some out =>
      have HP := Lib.hid (show ∀ w e w', ShiftPost (writeV ⟨a, b, c, d⟩ ns) w e w' → WPost out true w e w' from fun w e w' hp => by rw [hO] at hp; exact hp)
      have hbk := write_sound hO
      have HQ := Lib.hid (show ∀ w e w', ShiftPost (soundV ⟨a, b, c, d⟩ out) w e w' → WPost ns true w e w' from fun w e w' hp => by rw [hbk] at hp; exact hp)
      clear hO hbk
      go_wp2_with fail
      (go_at_call 27; (with_reducible refine (c_WriteFor a b c d _ ns _ HR1.out).mono ?_); rintro e w2 hpost; obtain ⟨vg, rfl, hog, hlg, hb2⟩ := HP.out _ _ _ hpost; clear hpost)
      have S := S.trans (hb2.mono S.size)
      have hh2 := below_heap hb2 HA1.out
      obtain ⟨_, _⟩ := blk_facts hh2
      have HH2 := Lib.hid hh2
      have HR2 := Lib.hid (HR1.out.below (Nat.le_refl _) hb2)
      obtain ⟨_, Ag, cg, rfl, hcg1, hcg2, hcg3⟩ := Rd.of_own hog
      have HG2 := Lib.hid (show Rd w2 (.slice Ag out.length cg) 6 (out).length (ntCells out) from Rd.of_own hog)
      clear hog hcg3 hh2
      go_wp2_with fail
      (go_at_call 26; (with_reducible refine (c_sWriteFor a b c d _ ns _ HR2.out).mono ?_); rintro e w3 hpost; obtain ⟨vw, rfl, how, hlw, hb3⟩ := HP.out _ _ _ hpost; clear hpost)
      have S := S.trans (hb3.mono S.size)
      have HG3 := Lib.hid (HG2.out.below (Nat.le_refl _) hb3)
      have HR3 := Lib.hid (HR2.out.below (Nat.le_refl _) hb3)
      have HW3 := Lib.hid (Rd.of_own how)
      have hh3 := below_heap hb3 HH2.out
      clear how
      go_wp2_with fail
      (go_at_call 31; (with_reducible refine (c_sameVoice_eq _ _ (out) _ HG3.out HW3.out).mono ?_); rintro e w4 ⟨rfl, hb4⟩)
      have S := S.trans (hb4.mono S.size)
      have HG4 := Lib.hid (HG3.out.below (Nat.le_refl _) hb4)
      have HR4 := Lib.hid (HR3.out.below (Nat.le_refl _) hb4)
      have hh4 := below_heap hb4 hh3
      obtain ⟨_, _⟩ := blk_facts hh4
      clear hh3
      go_wp2_with fail
      (go_at_call 32; (with_reducible refine (c_SoundOf a b c d _ out _ HG4.out).mono ?_); rintro e w6 hpost; obtain ⟨vk, rfl, hok, hlk, hb6⟩ := HQ.out _ _ _ hpost; clear hpost)
      have S := S.trans (hb6.mono S.size)
      have HR6 := Lib.hid (HR4.out.below (Nat.le_refl _) hb6)
      have HK6 := Lib.hid (Rd.of_own hok)
      clear hok
      go_wp2_with fail
      (go_at_call 31; (with_reducible refine (c_sameVoice_eq _ _ ns _ HK6.out HR6.out).mono ?_); rintro e w8 ⟨rfl, hb8⟩)
      have S := S.trans (hb8.mono S.size)
      go_wp2
      go_ret
      exact ⟨rfl, S⟩
  · go_enter Try.func8, Try.ntmps8
    go_wp2_with fail
    go_ret
    exact ⟨rfl, Below.refl _ _⟩
theorem walk_FnSoundOf (w : World) (v : Value) (bs : List Int) (h : Rd w v 1 bs.length (byteCells bs)) (hb : ∀ x ∈ bs, 0 ≤ x ∧ x ≤ 255) :
    Calls Try.prog 10 #[v] w fun e w' => e = .returned (.bool true) ∧ Below w.heap.size w w' := by
  have h' := Lib.hid h
  obtain ⟨_, A, c0, rfl, hnc, hcm, hA⟩ := h
  unfold maxLen at hcm
  clear hA
  by_cases hlen : bs.length ≤ 1048576
  · go_enter Try.func10, Try.ntmps10
    go_wp2_with fail
    (go_at_call 34; (with_reducible refine (c_DrawSoundOf _ bs _ h'.out hb).mono ?_); rintro e w1 ⟨v1, ns, ⟨a, b, c, d⟩, rfl, ho1, hl1, hb1⟩)
    have HV1 := Lib.hid (Rd.of_own ho1)
    have hz1 := hb1.size
    clear ho1
    have HA1 := Lib.hid (heap_alloc_new w1 (.cells #[.int .i64 a, .int .i64 b, .int .i64 c, .int .i64 d] 29))
    have HR1 := Lib.hid (HV1.out.alloc (.cells #[.int .i64 a, .int .i64 b, .int .i64 c, .int .i64 d] 29))
    have S := hb1.alloc hz1 (.cells #[.int .i64 a, .int .i64 b, .int .i64 c, .int .i64 d] 29)
    cases hO : soundV ⟨a, b, c, d⟩ ns with
    | none =>
      have HP := Lib.hid (show ∀ w e w', ShiftPost (soundV ⟨a, b, c, d⟩ ns) w e w' → WPost [] false w e w' from fun w e w' hp => by rw [hO] at hp; exact hp)
      clear hO
      go_wp2_with fail
      (go_at_call 32; (with_reducible refine (c_SoundOf a b c d _ ns _ HR1.out).mono ?_); rintro e w2 hpost; obtain ⟨vg, rfl, hog, hlg, hb2⟩ := HP.out _ _ _ hpost; clear hpost)
      have S := S.trans (hb2.mono S.size)
      have hh2 := below_heap hb2 HA1.out
      obtain ⟨_, _⟩ := blk_facts hh2
      have HH2 := Lib.hid hh2
      have HR2 := Lib.hid (HR1.out.below (Nat.le_refl _) hb2)
      obtain ⟨_, Ag, cg, rfl, hcg1, hcg2, hcg3⟩ := Rd.of_own hog
      have HG2 := Lib.hid (show Rd w2 (.slice Ag 0 cg) 6 (([] : List Nt)).length (ntCells ([] : List Nt)) from Rd.of_own hog)
      clear hog hcg3 hh2
      go_wp2_with fail
      (go_at_call 33; (with_reducible refine (c_sSoundOf a b c d _ ns _ HR2.out).mono ?_); rintro e w3 hpost; obtain ⟨vw, rfl, how, hlw, hb3⟩ := HP.out _ _ _ hpost; clear hpost)
      have S := S.trans (hb3.mono S.size)
      have HG3 := Lib.hid (HG2.out.below (Nat.le_refl _) hb3)
      have HR3 := Lib.hid (HR2.out.below (Nat.le_refl _) hb3)
      have HW3 := Lib.hid (Rd.of_own how)
      have hh3 := below_heap hb3 HH2.out
      clear how
      go_wp2_with fail
      (go_at_call 31; (with_reducible refine (c_sameVoice_eq _ _ (([] : List Nt)) _ HG3.out HW3.out).mono ?_); rintro e w4 ⟨rfl, hb4⟩)
      have S := S.trans (hb4.mono S.size)
      have HG4 := Lib.hid (HG3.out.below (Nat.le_refl _) hb4)
      have HR4 := Lib.hid (HR3.out.below (Nat.le_refl _) hb4)
      have hh4 := below_heap hb4 hh3
      obtain ⟨_, _⟩ := blk_facts hh4
      clear hh3
      go_wp2_with fail
      (go_at_call 17; (with_reducible refine (c_alive _).mono ?_); rintro e w5 ⟨rfl, hb5⟩)
      have S := S.trans (hb5.mono S.size)
      go_wp2
      go_ret
      exact ⟨rfl, S⟩
    | some out =>
      have HP := Lib.hid (show ∀ w e w', ShiftPost (soundV ⟨a, b, c, d⟩ ns) w e w' → WPost out true w e w' from fun w e w' hp => by rw [hO] at hp; exact hp)
      have hbk := sound_write hO
      have HQ := Lib.hid (show ∀ w e w', ShiftPost (writeV ⟨a, b, c, d⟩ out) w e w' → WPost ns true w e w' from fun w e w' hp => by rw [hbk] at hp; exact hp)
      clear hO hbk
      go_wp2_with fail
      (go_at_call 32; (with_reducible refine (c_SoundOf a b c d _ ns _ HR1.out).mono ?_); rintro e w2 hpost; obtain ⟨vg, rfl, hog, hlg, hb2⟩ := HP.out _ _ _ hpost; clear hpost)
      have S := S.trans (hb2.mono S.size)
      have hh2 := below_heap hb2 HA1.out
      obtain ⟨_, _⟩ := blk_facts hh2
      have HH2 := Lib.hid hh2
      have HR2 := Lib.hid (HR1.out.below (Nat.le_refl _) hb2)
      obtain ⟨_, Ag, cg, rfl, hcg1, hcg2, hcg3⟩ := Rd.of_own hog
      have HG2 := Lib.hid (show Rd w2 (.slice Ag out.length cg) 6 (out).length (ntCells out) from Rd.of_own hog)
      clear hog hcg3 hh2
      go_wp2_with fail
      (go_at_call 33; (with_reducible refine (c_sSoundOf a b c d _ ns _ HR2.out).mono ?_); rintro e w3 hpost; obtain ⟨vw, rfl, how, hlw, hb3⟩ := HP.out _ _ _ hpost; clear hpost)
      have S := S.trans (hb3.mono S.size)
      have HG3 := Lib.hid (HG2.out.below (Nat.le_refl _) hb3)
      have HR3 := Lib.hid (HR2.out.below (Nat.le_refl _) hb3)
      have HW3 := Lib.hid (Rd.of_own how)
      have hh3 := below_heap hb3 HH2.out
      clear how
      go_wp2_with fail
      (go_at_call 31; (with_reducible refine (c_sameVoice_eq _ _ (out) _ HG3.out HW3.out).mono ?_); rintro e w4 ⟨rfl, hb4⟩)
      have S := S.trans (hb4.mono S.size)
      have HG4 := Lib.hid (HG3.out.below (Nat.le_refl _) hb4)
      have HR4 := Lib.hid (HR3.out.below (Nat.le_refl _) hb4)
      have hh4 := below_heap hb4 hh3
      obtain ⟨_, _⟩ := blk_facts hh4
      clear hh3
      go_wp2_with fail
      (go_at_call 27; (with_reducible refine (c_WriteFor a b c d _ out _ HG4.out).mono ?_); rintro e w6 hpost; obtain ⟨vk, rfl, hok, hlk, hb6⟩ := HQ.out _ _ _ hpost; clear hpost)
      have S := S.trans (hb6.mono S.size)
      have HR6 := Lib.hid (HR4.out.below (Nat.le_refl _) hb6)
      have HK6 := Lib.hid (Rd.of_own hok)
      clear hok
      go_wp2_with fail
      (go_at_call 31; (with_reducible refine (c_sameVoice_eq _ _ ns _ HK6.out HR6.out).mono ?_); rintro e w8 ⟨rfl, hb8⟩)
      have S := S.trans (hb8.mono S.size)
      go_wp2
      go_ret
      exact ⟨rfl, S⟩
  · go_enter Try.func10, Try.ntmps10
    go_wp2_with fail
    go_ret
    exact ⟨rfl, Below.refl _ _⟩
end Go.Proofs.Ythkaofnciaommaa
