/- The walks of FnExactWriteFor and FnExactSoundOf. Conditions: none beyond the laws' own. -/
import Derived.Test.YthkaofnciaommaaN8
import Derived.Test.YthkaofnciaommaaNR
namespace Go.Proofs.Ythkaofnciaommaa
open Go.RowKit
set_option linter.unusedSimpArgs false
set_option linter.unusedVariables false
set_option maxHeartbeats 16000000

set_option maxRecDepth 100000 in
theorem walk_FnExactWriteFor (w : World) (i : Ins) (hi : i.Good) (v : Value) (ns : List Nt) (hr : Rd w v 6 ns.length (ntCells ns)) (hgd : ∀ a ∈ ns, a.Good) :
    Calls Try.prog 7 #[i.v, v] w fun e w' => e = .returned (.bool true) ∧ Below w.heap.size w w' := by
  clear hgd
  obtain ⟨s, h, l, m⟩ := i
  obtain ⟨L, bb, HP⟩ : ∃ L bb, Hid (∀ w e w', ShiftPost (writeV ⟨s, h, l, m⟩ ns) w e w' → WPost L bb w e w') := ⟨_, _, Lib.hid fun _ _ _ h => h⟩
  have HRw := Lib.hid hr
  obtain ⟨_, A, c, rfl, hnc, hcm, hA⟩ := hr
  unfold maxLen at hcm
  clear hA
  by_cases hlen : (ns.length : Int) ≤ 1048576
  · go_enter Try.func7, Try.ntmps7
    go_wp2_with fail
    (go_at_call 18; (with_reducible refine (c_szNoteS A _ c 1048576 _ (by omega) (by omega) (by omega) hlen).mono ?_); rintro e wA ⟨rfl, hwA⟩)
    have hA0 : wA.heap[w.heap.size]? = some (.cells #[.int .i64 s, .int .i64 h, .int .i64 l, .int .i64 m] 25 (0, 0)) := by rw [← hwA]; exact heap_alloc_new _ _
    have hzA : wA.heap.size = w.heap.size + 1 := by rw [← hwA, size_alloc']
    have S0 : Below w.heap.size w wA := by rw [← hwA]; exact bel1 _ _
    have HR := Lib.hid (show Rd wA (.slice A ns.length c) 6 ns.length (ntCells ns) from HRw.out.below (Nat.le_refl _) S0)
    clear hwA HRw
    have S2 := Below.refl wA.heap.size wA
    obtain ⟨_, _⟩ := blk_facts hA0
    have HA0 := Lib.hid hA0
    clear hA0
    have hn : ns.length ≤ 1048576 := by omega
    have hsz0 : ¬ ((1048576 : Int) - ns.length < 0) := by omega
    go_wp2_with fail
    (go_at_call 14; (with_reducible refine (c_toInstrument s h l m _).mono ?_); rintro e w1 ⟨rfl, hb1⟩; have S2 := S2.trans (hb1.mono S2.size))
    go_wp2_with fail
    (go_at_call 20; (with_reducible refine (c_toNoteS _ ns _ (HR.out.below (Nat.le_refl _) S2) hn).mono ?_); rintro e w2 ⟨v2, rfl, ho2, hb2⟩; have S2 := S2.trans (hb2.mono S2.size))
    have HR2 := Lib.hid (Rd.of_own ho2)
    clear ho2
    go_wp2_with fail
    (go_at_call 26; (with_reducible refine (c_sWriteFor s h l m _ ns _ HR2.out).mono ?_); rintro e w3 hpost; obtain ⟨vw, rfl, how, hlw, hb3⟩ := HP.out _ _ _ hpost; clear hpost; have S2 := S2.trans (hb3.mono S2.size))
    have HW3 := Lib.hid (Rd.of_own how)
    clear how
    have S3 := Below.refl w3.heap.size w3
    go_wp2_with fail
    (go_at_call 20; (with_reducible refine (c_toNoteS _ ns _ (HR.out.below (Nat.le_refl _) S2) hn).mono ?_); rintro e w4 ⟨v4, rfl, ho4, hb4⟩; have S2 := S2.trans (hb4.mono S2.size); have S3 := S3.trans (hb4.mono S3.size))
    have HO4 := Lib.hid ho4
    have HLT := Lib.hid (show ∀ b, v4.ownBlock = some b → b < w4.heap.size from fun b hb => (ho4.lt b hb).2)
    clear ho4
    have h4 := below_heap S2 HA0.out
    obtain ⟨_, _⟩ := blk_facts h4
    clear h4
    go_wp2_with fail
    (go_at_call 14; (with_reducible refine (c_toInstrument s h l m _).mono ?_); rintro e w5 ⟨rfl, hb5⟩; have S2 := S2.trans (hb5.mono S2.size); have S3 := S3.trans (hb5.mono S3.size))
    have HO5 := Lib.hid (own_belA HO4.out hb5)
    have HZ3 := Lib.hid S3.size
    have HZ2 := Lib.hid S2.size
    go_wp2_with fail
    (go_at_call 27; (with_reducible refine (c_WriteFor s h l m _ ns _ (Rd.of_own HO5.out)).mono ?_); rintro e w6 hpost; obtain ⟨vg, rfl, hog, hlg, hb6⟩ := HP.out _ _ _ hpost; clear hpost; have S2 := S2.trans (hb6.mono S2.size); have S3 := S3.trans (hb6.mono S3.size))
    have HO6 := Lib.hid (own_belA HO5.out hb6)
    have HOG6 := Lib.hid hog
    clear hog
    have z45 := hb5.size
    have z56 := hb6.size
    go_wp2_with fail
    (go_at_call 22; (with_reducible refine (c_eqNoteS_eq _ _ L _ (Rd.of_own HOG6.out) (HW3.out.below (Nat.le_refl _) S3)).mono ?_); rintro e w7 ⟨rfl, hb7⟩; have S2 := S2.trans (hb7.mono S2.size); have S3 := S3.trans (hb7.mono S3.size))
    have HO7 := Lib.hid (own_belA HO6.out hb7)
    have HOG7 := Lib.hid (own_belA HOG6.out hb7)
    go_wp2_with fail
    (go_at_call 20; (with_reducible refine (c_toNoteS _ ns _ (HR.out.below (Nat.le_refl _) S2) hn).mono ?_); rintro e w8 ⟨v8, rfl, ho8, hb8⟩; have S2 := S2.trans (hb8.mono S2.size); have S3 := S3.trans (hb8.mono S3.size))
    have HO8 := Lib.hid (own_belA HO7.out hb8)
    have HOG8 := Lib.hid (own_belA HOG7.out hb8)
    have HR8 := Lib.hid (Rd.of_own ho8)
    clear ho8
    go_wp2_with fail
    (go_at_call 22; (with_reducible refine (c_eqNoteS_eq _ _ ns _ (Rd.of_own HO8.out) HR8.out).mono ?_); rintro e w9 ⟨rfl, hb9⟩; have S2 := S2.trans (hb9.mono S2.size); have S3 := S3.trans (hb9.mono S3.size))
    have HO9 := Lib.hid (own_belA HO8.out hb9)
    have HOG9 := Lib.hid (own_belA HOG8.out hb9)
    have z3 := S3.size
    have z2 := S2.size
    have zA3 : wA.heap.size ≤ w3.heap.size := by have := hb3.size; have := hb2.size; have := hb1.size; omega
    have z69 : w5.heap.size ≤ w9.heap.size := by have := hb7.size; have := hb8.size; have := hb9.size; omega
    go_wp2_with fail
    (go_at_call 28; (with_reducible refine (c_markNoteS w3.heap.size _ ns.length _ 1 _ HO9.out hn (by omega) (by omega)).mono ?_); rintro e w10 ⟨rfl, hown10, hk10⟩)
    have hb10 := bel_grown (Below.refl w3.heap.size w9) HO9.out hk10 (Nat.le_refl _) z3
    have S2 := S2.trans (hb10.mono zA3)
    have S3 := S3.trans hb10
    have HOG10 := Lib.hid (own_sep HOG9.out hk10 HLT.out z45)
    have z910 := hk10.size
    clear hown10 hk10
    have hM10 : ¬ ((1 : Int) + 6 * ns.length < 0) := by omega
    go_wp2_with fail
    (go_at_call 22; (with_reducible refine (c_eqNoteS_eq _ _ L _ (Rd.of_own HOG10.out) (HW3.out.below (Nat.le_refl _) S3)).mono ?_); rintro e w11 ⟨rfl, hb11⟩; have S2 := S2.trans (hb11.mono S2.size); have S3 := S3.trans (hb11.mono S3.size))
    have HOG11 := Lib.hid (own_belA HOG10.out hb11)
    have z11 : w5.heap.size ≤ w11.heap.size := by have := hb11.size; omega
    go_wp2_with fail
    (go_at_call 28; (with_reducible refine (c_markNoteS w5.heap.size _ L.length _ 1 _ HOG11.out (by omega) (by omega) (by omega)).mono ?_); rintro e w12 ⟨rfl, hown12, hk12⟩)
    have hb12 := bel_grown (Below.refl w5.heap.size w11) HOG11.out hk12 (Nat.le_refl _) z11
    have S2 := S2.trans (hb12.mono HZ2.out)
    have S3 := S3.trans (hb12.mono HZ3.out)
    have HM12 := Lib.hid (Rd.of_own hown12)
    clear hown12 hk12
    have hM12 : ¬ ((1 : Int) + 6 * L.length < 0) := by omega
    go_wp2_with fail
    (go_at_call 29; (with_reducible refine (c_heldNoteS _ L.length 1 _ HM12.out (by omega) (by omega) (by omega)).mono ?_); rintro e w13 ⟨rfl, rfl⟩)
    have h12 := below_heap S2 HA0.out
    obtain ⟨_, _⟩ := blk_facts h12
    clear h12
    go_wp2_with fail
    (go_at_call 14; (with_reducible refine (c_toInstrument s h l m _).mono ?_); rintro e w13 ⟨rfl, hb13⟩; have S2 := S2.trans (hb13.mono S2.size); have S3 := S3.trans (hb13.mono S3.size))
    have HM13 := Lib.hid (HM12.out.below (Nat.le_refl _) hb13)
    go_wp2_with fail
    (go_at_call 20; (with_reducible refine (c_toNoteS _ ns _ (HR.out.below (Nat.le_refl _) S2) hn).mono ?_); rintro e w14 ⟨v14, rfl, ho14, hb14⟩; have S2 := S2.trans (hb14.mono S2.size); have S3 := S3.trans (hb14.mono S3.size))
    have HM14 := Lib.hid (HM13.out.below (Nat.le_refl _) hb14)
    have HR14 := Lib.hid (Rd.of_own ho14)
    clear ho14
    go_wp2_with fail
    (go_at_call 27; (with_reducible refine (c_WriteFor s h l m _ ns _ HR14.out).mono ?_); rintro e w15 hpost; obtain ⟨vh, rfl, hoh, hlh, hb15⟩ := HP.out _ _ _ hpost; clear hpost; have S2 := S2.trans (hb15.mono S2.size); have S3 := S3.trans (hb15.mono S3.size))
    have HM15 := Lib.hid (HM14.out.below (Nat.le_refl _) hb15)
    have HH15 := Lib.hid (Rd.of_own hoh)
    clear hoh
    go_wp2_with fail
    (go_at_call 22; (with_reducible refine (c_eqNoteS_eq _ _ L _ HH15.out (HW3.out.below (Nat.le_refl _) S3)).mono ?_); rintro e w16 ⟨rfl, hb16⟩; have S2 := S2.trans (hb16.mono S2.size))
    have HM16 := Lib.hid (HM15.out.below (Nat.le_refl _) hb16)
    go_wp2_with fail
    (go_at_call 29; (with_reducible refine (c_heldNoteS _ L.length 1 _ HM16.out (by omega) (by omega) (by omega)).mono ?_); rintro e w17 ⟨rfl, rfl⟩)
    go_wp2_with fail
    go_ret
    exact ⟨rfl, S0.trans (S2.mono (by omega))⟩
  · go_enter Try.func7, Try.ntmps7
    go_wp2_with fail
    (go_at_call 18; (with_reducible refine (c_szNoteS_no A _ c 1048576 _ (by omega) (by omega) (by omega) (by omega)).mono ?_); rintro e wA ⟨rfl, hwA⟩)
    have S0 : Below w.heap.size w wA := by rw [← hwA]; exact bel1 _ _
    clear hwA
    go_wp2
    go_ret
    exact ⟨rfl, S0⟩
set_option maxRecDepth 100000 in
theorem walk_FnExactSoundOf (w : World) (i : Ins) (hi : i.Good) (v : Value) (ns : List Nt) (hr : Rd w v 6 ns.length (ntCells ns)) (hgd : ∀ a ∈ ns, a.Good) :
    Calls Try.prog 9 #[i.v, v] w fun e w' => e = .returned (.bool true) ∧ Below w.heap.size w w' := by
  clear hgd
  obtain ⟨s, h, l, m⟩ := i
  obtain ⟨L, bb, HP⟩ : ∃ L bb, Hid (∀ w e w', ShiftPost (soundV ⟨s, h, l, m⟩ ns) w e w' → WPost L bb w e w') := ⟨_, _, Lib.hid fun _ _ _ h => h⟩
  have HRw := Lib.hid hr
  obtain ⟨_, A, c, rfl, hnc, hcm, hA⟩ := hr
  unfold maxLen at hcm
  clear hA
  by_cases hlen : (ns.length : Int) ≤ 1048576
  · go_enter Try.func9, Try.ntmps9
    go_wp2_with fail
    (go_at_call 18; (with_reducible refine (c_szNoteS A _ c 1048576 _ (by omega) (by omega) (by omega) hlen).mono ?_); rintro e wA ⟨rfl, hwA⟩)
    have hA0 : wA.heap[w.heap.size]? = some (.cells #[.int .i64 s, .int .i64 h, .int .i64 l, .int .i64 m] 25 (0, 0)) := by rw [← hwA]; exact heap_alloc_new _ _
    have hzA : wA.heap.size = w.heap.size + 1 := by rw [← hwA, size_alloc']
    have S0 : Below w.heap.size w wA := by rw [← hwA]; exact bel1 _ _
    have HR := Lib.hid (show Rd wA (.slice A ns.length c) 6 ns.length (ntCells ns) from HRw.out.below (Nat.le_refl _) S0)
    clear hwA HRw
    have S2 := Below.refl wA.heap.size wA
    obtain ⟨_, _⟩ := blk_facts hA0
    have HA0 := Lib.hid hA0
    clear hA0
    have hn : ns.length ≤ 1048576 := by omega
    have hsz0 : ¬ ((1048576 : Int) - ns.length < 0) := by omega
    go_wp2_with fail
    (go_at_call 14; (with_reducible refine (c_toInstrument s h l m _).mono ?_); rintro e w1 ⟨rfl, hb1⟩; have S2 := S2.trans (hb1.mono S2.size))
    go_wp2_with fail
    (go_at_call 20; (with_reducible refine (c_toNoteS _ ns _ (HR.out.below (Nat.le_refl _) S2) hn).mono ?_); rintro e w2 ⟨v2, rfl, ho2, hb2⟩; have S2 := S2.trans (hb2.mono S2.size))
    have HR2 := Lib.hid (Rd.of_own ho2)
    clear ho2
    go_wp2_with fail
    (go_at_call 33; (with_reducible refine (c_sSoundOf s h l m _ ns _ HR2.out).mono ?_); rintro e w3 hpost; obtain ⟨vw, rfl, how, hlw, hb3⟩ := HP.out _ _ _ hpost; clear hpost; have S2 := S2.trans (hb3.mono S2.size))
    have HW3 := Lib.hid (Rd.of_own how)
    clear how
    have S3 := Below.refl w3.heap.size w3
    go_wp2_with fail
    (go_at_call 20; (with_reducible refine (c_toNoteS _ ns _ (HR.out.below (Nat.le_refl _) S2) hn).mono ?_); rintro e w4 ⟨v4, rfl, ho4, hb4⟩; have S2 := S2.trans (hb4.mono S2.size); have S3 := S3.trans (hb4.mono S3.size))
    have HO4 := Lib.hid ho4
    have HLT := Lib.hid (show ∀ b, v4.ownBlock = some b → b < w4.heap.size from fun b hb => (ho4.lt b hb).2)
    clear ho4
    have h4 := below_heap S2 HA0.out
    obtain ⟨_, _⟩ := blk_facts h4
    clear h4
    go_wp2_with fail
    (go_at_call 14; (with_reducible refine (c_toInstrument s h l m _).mono ?_); rintro e w5 ⟨rfl, hb5⟩; have S2 := S2.trans (hb5.mono S2.size); have S3 := S3.trans (hb5.mono S3.size))
    have HO5 := Lib.hid (own_belA HO4.out hb5)
    have HZ3 := Lib.hid S3.size
    have HZ2 := Lib.hid S2.size
    go_wp2_with fail
    (go_at_call 32; (with_reducible refine (c_SoundOf s h l m _ ns _ (Rd.of_own HO5.out)).mono ?_); rintro e w6 hpost; obtain ⟨vg, rfl, hog, hlg, hb6⟩ := HP.out _ _ _ hpost; clear hpost; have S2 := S2.trans (hb6.mono S2.size); have S3 := S3.trans (hb6.mono S3.size))
    have HO6 := Lib.hid (own_belA HO5.out hb6)
    have HOG6 := Lib.hid hog
    clear hog
    have z45 := hb5.size
    have z56 := hb6.size
    go_wp2_with fail
    (go_at_call 22; (with_reducible refine (c_eqNoteS_eq _ _ L _ (Rd.of_own HOG6.out) (HW3.out.below (Nat.le_refl _) S3)).mono ?_); rintro e w7 ⟨rfl, hb7⟩; have S2 := S2.trans (hb7.mono S2.size); have S3 := S3.trans (hb7.mono S3.size))
    have HO7 := Lib.hid (own_belA HO6.out hb7)
    have HOG7 := Lib.hid (own_belA HOG6.out hb7)
    go_wp2_with fail
    (go_at_call 20; (with_reducible refine (c_toNoteS _ ns _ (HR.out.below (Nat.le_refl _) S2) hn).mono ?_); rintro e w8 ⟨v8, rfl, ho8, hb8⟩; have S2 := S2.trans (hb8.mono S2.size); have S3 := S3.trans (hb8.mono S3.size))
    have HO8 := Lib.hid (own_belA HO7.out hb8)
    have HOG8 := Lib.hid (own_belA HOG7.out hb8)
    have HR8 := Lib.hid (Rd.of_own ho8)
    clear ho8
    go_wp2_with fail
    (go_at_call 22; (with_reducible refine (c_eqNoteS_eq _ _ ns _ (Rd.of_own HO8.out) HR8.out).mono ?_); rintro e w9 ⟨rfl, hb9⟩; have S2 := S2.trans (hb9.mono S2.size); have S3 := S3.trans (hb9.mono S3.size))
    have HO9 := Lib.hid (own_belA HO8.out hb9)
    have HOG9 := Lib.hid (own_belA HOG8.out hb9)
    have z3 := S3.size
    have z2 := S2.size
    have zA3 : wA.heap.size ≤ w3.heap.size := by have := hb3.size; have := hb2.size; have := hb1.size; omega
    have z69 : w5.heap.size ≤ w9.heap.size := by have := hb7.size; have := hb8.size; have := hb9.size; omega
    go_wp2_with fail
    (go_at_call 28; (with_reducible refine (c_markNoteS w3.heap.size _ ns.length _ 1 _ HO9.out hn (by omega) (by omega)).mono ?_); rintro e w10 ⟨rfl, hown10, hk10⟩)
    have hb10 := bel_grown (Below.refl w3.heap.size w9) HO9.out hk10 (Nat.le_refl _) z3
    have S2 := S2.trans (hb10.mono zA3)
    have S3 := S3.trans hb10
    have HOG10 := Lib.hid (own_sep HOG9.out hk10 HLT.out z45)
    have z910 := hk10.size
    clear hown10 hk10
    have hM10 : ¬ ((1 : Int) + 6 * ns.length < 0) := by omega
    go_wp2_with fail
    (go_at_call 22; (with_reducible refine (c_eqNoteS_eq _ _ L _ (Rd.of_own HOG10.out) (HW3.out.below (Nat.le_refl _) S3)).mono ?_); rintro e w11 ⟨rfl, hb11⟩; have S2 := S2.trans (hb11.mono S2.size); have S3 := S3.trans (hb11.mono S3.size))
    have HOG11 := Lib.hid (own_belA HOG10.out hb11)
    have z11 : w5.heap.size ≤ w11.heap.size := by have := hb11.size; omega
    go_wp2_with fail
    (go_at_call 28; (with_reducible refine (c_markNoteS w5.heap.size _ L.length _ 1 _ HOG11.out (by omega) (by omega) (by omega)).mono ?_); rintro e w12 ⟨rfl, hown12, hk12⟩)
    have hb12 := bel_grown (Below.refl w5.heap.size w11) HOG11.out hk12 (Nat.le_refl _) z11
    have S2 := S2.trans (hb12.mono HZ2.out)
    have S3 := S3.trans (hb12.mono HZ3.out)
    have HM12 := Lib.hid (Rd.of_own hown12)
    clear hown12 hk12
    have hM12 : ¬ ((1 : Int) + 6 * L.length < 0) := by omega
    go_wp2_with fail
    (go_at_call 29; (with_reducible refine (c_heldNoteS _ L.length 1 _ HM12.out (by omega) (by omega) (by omega)).mono ?_); rintro e w13 ⟨rfl, rfl⟩)
    have h12 := below_heap S2 HA0.out
    obtain ⟨_, _⟩ := blk_facts h12
    clear h12
    go_wp2_with fail
    (go_at_call 14; (with_reducible refine (c_toInstrument s h l m _).mono ?_); rintro e w13 ⟨rfl, hb13⟩; have S2 := S2.trans (hb13.mono S2.size); have S3 := S3.trans (hb13.mono S3.size))
    have HM13 := Lib.hid (HM12.out.below (Nat.le_refl _) hb13)
    go_wp2_with fail
    (go_at_call 20; (with_reducible refine (c_toNoteS _ ns _ (HR.out.below (Nat.le_refl _) S2) hn).mono ?_); rintro e w14 ⟨v14, rfl, ho14, hb14⟩; have S2 := S2.trans (hb14.mono S2.size); have S3 := S3.trans (hb14.mono S3.size))
    have HM14 := Lib.hid (HM13.out.below (Nat.le_refl _) hb14)
    have HR14 := Lib.hid (Rd.of_own ho14)
    clear ho14
    go_wp2_with fail
    (go_at_call 32; (with_reducible refine (c_SoundOf s h l m _ ns _ HR14.out).mono ?_); rintro e w15 hpost; obtain ⟨vh, rfl, hoh, hlh, hb15⟩ := HP.out _ _ _ hpost; clear hpost; have S2 := S2.trans (hb15.mono S2.size); have S3 := S3.trans (hb15.mono S3.size))
    have HM15 := Lib.hid (HM14.out.below (Nat.le_refl _) hb15)
    have HH15 := Lib.hid (Rd.of_own hoh)
    clear hoh
    go_wp2_with fail
    (go_at_call 22; (with_reducible refine (c_eqNoteS_eq _ _ L _ HH15.out (HW3.out.below (Nat.le_refl _) S3)).mono ?_); rintro e w16 ⟨rfl, hb16⟩; have S2 := S2.trans (hb16.mono S2.size))
    have HM16 := Lib.hid (HM15.out.below (Nat.le_refl _) hb16)
    go_wp2_with fail
    (go_at_call 29; (with_reducible refine (c_heldNoteS _ L.length 1 _ HM16.out (by omega) (by omega) (by omega)).mono ?_); rintro e w17 ⟨rfl, rfl⟩)
    go_wp2_with fail
    go_ret
    exact ⟨rfl, S0.trans (S2.mono (by omega))⟩
  · go_enter Try.func9, Try.ntmps9
    go_wp2_with fail
    (go_at_call 18; (with_reducible refine (c_szNoteS_no A _ c 1048576 _ (by omega) (by omega) (by omega) (by omega)).mono ?_); rintro e wA ⟨rfl, hwA⟩)
    have S0 : Below w.heap.size w wA := by rw [← hwA]; exact bel1 _ _
    clear hwA
    go_wp2
    go_ret
    exact ⟨rfl, S0⟩
end Go.Proofs.Ythkaofnciaommaa
