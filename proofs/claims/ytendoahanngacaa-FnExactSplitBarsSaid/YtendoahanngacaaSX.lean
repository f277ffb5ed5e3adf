/- The walk of FnExactSplitBars. Conditions: none beyond the laws' own. -/
import Derived.Test.YtendoahanngacaaSB
import Derived.Test.YtendoahanngacaaNR
namespace Go.Proofs.Ytendoahanngacaa
open Go.RowKit
set_option linter.unusedSimpArgs false
set_option linter.unusedVariables false
set_option maxHeartbeats 16000000
set_option maxRecDepth 100000 in
theorem walk_FnExactSplitBars (w : World) (v : Value) (ns : List Nt) (hr : Rd w v 6 ns.length (ntCells ns)) (hg : ∀ a ∈ ns, a.Good) (m : Met) (hm : m.Good) :
    Calls Try.prog 13 #[v, m.v] w fun e w' => e = .returned (.bool true) ∧ Below w.heap.size w w' := by
  clear hg
  obtain ⟨b, u⟩ := m
  obtain ⟨L, bb, HP⟩ : ∃ L bb, Hid (∀ w e w', ShiftPost (splitB ns ⟨b, u⟩) w e w' → WPost L bb w e w') := ⟨_, _, Lib.hid fun _ _ _ h => h⟩
  have HRw := Lib.hid hr
  obtain ⟨_, A, c, rfl, hnc, hcm, hA⟩ := hr
  unfold maxLen at hcm
  clear hA
  by_cases hlen : (ns.length : Int) ≤ 1048576
  · go_enter Try.func13, Try.ntmps13
    go_wp2_with fail
    (go_at_call 28; (with_reducible refine (c_szNoteS A _ c 1048576 _ (by omega) (by omega) (by omega) hlen).mono ?_); rintro e wA ⟨rfl, hwA⟩)
    have hA0 : wA.heap[w.heap.size]? = some (.cells #[.int .i64 b, .int .i64 u] 23 (0, 0)) := by rw [← hwA]; exact heap_alloc_new _ _
    have hzA : wA.heap.size = w.heap.size + 1 := by rw [← hwA, size_alloc']
    have S0 : Below w.heap.size w wA := by rw [← hwA]; exact bel1 _ _
    have HR := Lib.hid (show Rd wA (.slice A ns.length c) 6 ns.length (ntCells ns) from HRw.out.below (Nat.le_refl _) S0)
    clear hwA HRw
    have k1 : wA.cell? ⟨w.heap.size, 0, none⟩ = some (.int .i64 b) := by rw [cell_of_row wA w.heap.size 0 _ _ _ hA0]; rfl
    have k2 : wA.cell? ⟨w.heap.size, 1, none⟩ = some (.int .i64 u) := by rw [cell_of_row wA w.heap.size 1 _ _ _ hA0]; rfl
    have k3 := hA0
    have HA0 := Lib.hid hA0
    clear hA0
    have hn : ns.length ≤ 1048576 := by omega
    have hsz0 : ¬ ((1048576 : Int) - ns.length < 0) := by omega
    go_wp2_with fail
    go_region_held3 (fun w' => Below wA.heap.size wA w' ∧ w'.cell? ⟨w.heap.size, 0, none⟩ = some (.int .i64 b) ∧ w'.cell? ⟨w.heap.size, 1, none⟩ = some (.int .i64 u) ∧ w'.heap[w.heap.size]? = some (.cells #[.int .i64 b, .int .i64 u] 23 (0, 0))) ((first | assumption | (refine ⟨?_, ?_, ?_, ?_⟩; (repeat' (first | (with_reducible exact Below.refl _ _) | (with_reducible refine Below.setCell ?_ ?_ _) | (with_reducible refine Below.alloc ?_ ?_ _) | (with_reducible refine Below.drew ?_) | (with_reducible refine below_drewN ?_ _) | (with_reducible refine Below.trans ?_ (Below.mono (by with_reducible assumption) ?_)) | omega | (simp only [size_alloc', size_setCell', size_drew', size_drewN'] at *; omega))); all_goals (first | assumption | (simp [*, World.cell?_alloc_some, World.cell?_setCell_far]; done) | (simp only [heap_alloc_get, heap_setCell_get, heap_drew_get, heap_drewN_get, size_alloc', size_setCell', size_drew', size_drewN', nat_simp1, nat_simp2, nat_simp3, nat_simp4, nat_simp5, if_true, if_false, Option.map_some, *]; first | done | rfl | simp)))))
      (first
        | (go_at_call 30; obtain ⟨s0, s1, s2, s3⟩ := ‹Below wA.heap.size wA _ ∧ _›; (with_reducible refine (c_toNoteS _ ns _ (HR.out.below (Nat.le_refl _) s0) hn).mono ?_); rintro e w2 ⟨v2, rfl, hown2, hb2⟩; have S2 := And.intro (s0.trans (hb2.mono s0.size)) (And.intro (below_cell hb2 s1) (And.intro (below_cell hb2 s2) (below_heap hb2 s3))))
        | (go_at_call 17; obtain ⟨s0, s1, s2, s3⟩ := ‹Below wA.heap.size wA _ ∧ _›; (with_reducible refine (c_toMeter ⟨b, u⟩ _).mono ?_); rintro e w3 ⟨rfl, hb3⟩; have hr3 := (Rd.of_own hown2).below (Nat.le_refl _) hb3; have S2 := And.intro (s0.trans (hb3.mono s0.size)) (And.intro (below_cell hb3 s1) (And.intro (below_cell hb3 s2) (below_heap hb3 s3))))
        | (go_at_call 41; obtain ⟨s0, s1, s2, s3⟩ := ‹Below wA.heap.size wA _ ∧ _›; (with_reducible refine (c_sSplitBars _ ns ⟨b, u⟩ _ hr3).mono ?_); rintro e w4 hpost; obtain ⟨vw, rfl, how, hlw, hb4⟩ := HP.out _ _ _ hpost; clear hpost; have S2 := And.intro (s0.trans (hb4.mono s0.size)) (And.intro (below_cell hb4 s1) (And.intro (below_cell hb4 s2) (below_heap hb4 s3)))))
    obtain ⟨SB, c0, c1, SH⟩ := S2
    have S2 := SB
    clear k1 k2 k3 SB SH
    have HW3 := Lib.hid (Rd.of_own how)
    clear how hr3 hown2
    have S3 := Below.refl w4.heap.size w4
    have zA3 := S2.size
    clear c0 c1
    go_wp2_with fail
    (go_at_call 30; (with_reducible refine (c_toNoteS _ ns _ (HR.out.below (Nat.le_refl _) S2) hn).mono ?_); rintro e w5 ⟨v4, rfl, ho4, hb5⟩; have S2 := S2.trans (hb5.mono S2.size); have S3 := S3.trans (hb5.mono S3.size))
    have HO4 := Lib.hid ho4
    have HLT := Lib.hid (show ∀ b, v4.ownBlock = some b → b < w5.heap.size from fun b hb => (ho4.lt b hb).2)
    clear ho4
    have h4 := below_heap S2 HA0.out
    obtain ⟨_, _⟩ := blk_facts h4
    clear h4
    go_wp2_with fail
    (go_at_call 17; (with_reducible refine (c_toMeter ⟨b, u⟩ _).mono ?_); rintro e w6 ⟨rfl, hb6⟩; have S2 := S2.trans (hb6.mono S2.size); have S3 := S3.trans (hb6.mono S3.size))
    have HO5 := Lib.hid (own_belA HO4.out hb6)
    have HZ3 := Lib.hid S3.size
    have HZ2 := Lib.hid S2.size
    go_wp2_with fail
    (go_at_call 42; (with_reducible refine (c_SplitBars _ ns ⟨b, u⟩ _ (Rd.of_own HO5.out)).mono ?_); rintro e w7 hpost; obtain ⟨vg, rfl, hog, hlg, hb7⟩ := HP.out _ _ _ hpost; clear hpost; have S2 := S2.trans (hb7.mono S2.size); have S3 := S3.trans (hb7.mono S3.size))
    have HO6 := Lib.hid (own_belA HO5.out hb7)
    have HOG6 := Lib.hid hog
    clear hog
    have z45 := hb6.size
    have z56 := hb7.size
    go_wp2_with fail
    (go_at_call 32; (with_reducible refine (c_eqNoteS_eq _ _ L _ (Rd.of_own HOG6.out) (HW3.out.below (Nat.le_refl _) S3)).mono ?_); rintro e w8 ⟨rfl, hb8⟩; have S2 := S2.trans (hb8.mono S2.size); have S3 := S3.trans (hb8.mono S3.size))
    have HO7 := Lib.hid (own_belA HO6.out hb8)
    have HOG7 := Lib.hid (own_belA HOG6.out hb8)
    go_wp2_with fail
    (go_at_call 30; (with_reducible refine (c_toNoteS _ ns _ (HR.out.below (Nat.le_refl _) S2) hn).mono ?_); rintro e w9 ⟨v8, rfl, ho8, hb9⟩; have S2 := S2.trans (hb9.mono S2.size); have S3 := S3.trans (hb9.mono S3.size))
    have HO8 := Lib.hid (own_belA HO7.out hb9)
    have HOG8 := Lib.hid (own_belA HOG7.out hb9)
    have HR8 := Lib.hid (Rd.of_own ho8)
    clear ho8
    go_wp2_with fail
    (go_at_call 32; (with_reducible refine (c_eqNoteS_eq _ _ ns _ (Rd.of_own HO8.out) HR8.out).mono ?_); rintro e w10 ⟨rfl, hb10⟩; have S2 := S2.trans (hb10.mono S2.size); have S3 := S3.trans (hb10.mono S3.size))
    have HO9 := Lib.hid (own_belA HO8.out hb10)
    have HOG9 := Lib.hid (own_belA HOG8.out hb10)
    have z3 := S3.size
    have z2 := S2.size
    have z69 : w6.heap.size ≤ w10.heap.size := by have := hb8.size; have := hb9.size; have := hb10.size; omega
    go_wp2_with fail
    (go_at_call 37; (with_reducible refine (c_markNoteS w4.heap.size _ ns.length _ 1 _ HO9.out hn (by omega) (by omega)).mono ?_); rintro e w11 ⟨rfl, hown11, hk11⟩)
    have hb11 := bel_grown (Below.refl w4.heap.size w10) HO9.out hk11 (Nat.le_refl _) z3
    have S2 := S2.trans (hb11.mono zA3)
    have S3 := S3.trans hb11
    have HOG10 := Lib.hid (own_sep HOG9.out hk11 HLT.out z45)
    have z910 := hk11.size
    clear hown11 hk11
    have hM10 : ¬ ((1 : Int) + 6 * ns.length < 0) := by omega
    go_wp2_with fail
    (go_at_call 32; (with_reducible refine (c_eqNoteS_eq _ _ L _ (Rd.of_own HOG10.out) (HW3.out.below (Nat.le_refl _) S3)).mono ?_); rintro e w12 ⟨rfl, hb12⟩; have S2 := S2.trans (hb12.mono S2.size); have S3 := S3.trans (hb12.mono S3.size))
    have HOG11 := Lib.hid (own_belA HOG10.out hb12)
    have z11 : w6.heap.size ≤ w12.heap.size := by have := hb12.size; omega
    go_wp2_with fail
    (go_at_call 37; (with_reducible refine (c_markNoteS w6.heap.size _ L.length _ 1 _ HOG11.out (by omega) (by omega) (by omega)).mono ?_); rintro e w13 ⟨rfl, hown13, hk13⟩)
    have hb13 := bel_grown (Below.refl w6.heap.size w12) HOG11.out hk13 (Nat.le_refl _) z11
    have S2 := S2.trans (hb13.mono HZ2.out)
    have S3 := S3.trans (hb13.mono HZ3.out)
    have HM12 := Lib.hid (Rd.of_own hown13)
    clear hown13 hk13
    have hM12 : ¬ ((1 : Int) + 6 * L.length < 0) := by omega
    go_wp2_with fail
    (go_at_call 38; (with_reducible refine (c_heldNoteS _ L.length 1 _ HM12.out (by omega) (by omega) (by omega)).mono ?_); rintro e w14 ⟨rfl, rfl⟩)
    have k3 := below_heap S2 HA0.out
    have k1 : w13.cell? ⟨w.heap.size, 0, none⟩ = some (.int .i64 b) := by rw [cell_of_row w13 w.heap.size 0 _ _ _ k3]; rfl
    have k2 : w13.cell? ⟨w.heap.size, 1, none⟩ = some (.int .i64 u) := by rw [cell_of_row w13 w.heap.size 1 _ _ _ k3]; rfl
    have HS2 := Lib.hid S2
    have HS3 := Lib.hid S3
    have HR13 := Lib.hid (HR.out.below (Nat.le_refl _) S2)
    clear S2 S3
    go_wp2_with fail
    go_region_held3 (fun w' => Below w13.heap.size w13 w' ∧ w'.cell? ⟨w.heap.size, 0, none⟩ = some (.int .i64 b) ∧ w'.cell? ⟨w.heap.size, 1, none⟩ = some (.int .i64 u) ∧ w'.heap[w.heap.size]? = some (.cells #[.int .i64 b, .int .i64 u] 23 (0, 0))) ((first | assumption | (refine ⟨?_, ?_, ?_, ?_⟩; (repeat' (first | (with_reducible exact Below.refl _ _) | (with_reducible refine Below.setCell ?_ ?_ _) | (with_reducible refine Below.alloc ?_ ?_ _) | (with_reducible refine Below.drew ?_) | (with_reducible refine below_drewN ?_ _) | (with_reducible refine Below.trans ?_ (Below.mono (by with_reducible assumption) ?_)) | omega | (simp only [size_alloc', size_setCell', size_drew', size_drewN'] at *; omega))); all_goals (first | assumption | (simp [*, World.cell?_alloc_some, World.cell?_setCell_far]; done) | (simp only [heap_alloc_get, heap_setCell_get, heap_drew_get, heap_drewN_get, size_alloc', size_setCell', size_drew', size_drewN', nat_simp1, nat_simp2, nat_simp3, nat_simp4, nat_simp5, if_true, if_false, Option.map_some, *]; first | done | rfl | simp)))))
      (first
        | (go_at_call 30; obtain ⟨s0, s1, s2, s3⟩ := ‹Below w13.heap.size w13 _ ∧ _›; (with_reducible refine (c_toNoteS _ ns _ (HR13.out.below (Nat.le_refl _) s0) hn).mono ?_); rintro e w15 ⟨v15, rfl, hown15, hb15⟩; have S2 := And.intro (s0.trans (hb15.mono s0.size)) (And.intro (below_cell hb15 s1) (And.intro (below_cell hb15 s2) (below_heap hb15 s3))))
        | (go_at_call 17; obtain ⟨s0, s1, s2, s3⟩ := ‹Below w13.heap.size w13 _ ∧ _›; (with_reducible refine (c_toMeter ⟨b, u⟩ _).mono ?_); rintro e w16 ⟨rfl, hb16⟩; have hr16 := (Rd.of_own hown15).below (Nat.le_refl _) hb16; have S2 := And.intro (s0.trans (hb16.mono s0.size)) (And.intro (below_cell hb16 s1) (And.intro (below_cell hb16 s2) (below_heap hb16 s3))))
        | (go_at_call 42; obtain ⟨s0, s1, s2, s3⟩ := ‹Below w13.heap.size w13 _ ∧ _›; (with_reducible refine (c_SplitBars _ ns ⟨b, u⟩ _ hr16).mono ?_); rintro e w17 hpost; obtain ⟨vh, rfl, hoh, hlh, hb17⟩ := HP.out _ _ _ hpost; clear hpost; have S2 := And.intro (s0.trans (hb17.mono s0.size)) (And.intro (below_cell hb17 s1) (And.intro (below_cell hb17 s2) (below_heap hb17 s3)))))
    obtain ⟨SB, c0, c1, SH⟩ := S2
    have S2 := HS2.out.trans (SB.mono HS2.out.size)
    have S3 := HS3.out.trans (SB.mono HS3.out.size)
    have HM15 := Lib.hid (HM12.out.below (Nat.le_refl _) SB)
    have HH15 := Lib.hid (Rd.of_own hoh)
    clear hoh hown15 hr16 SB SH c0 c1 k1 k2 k3
    go_wp2_with fail
    (go_at_call 32; (with_reducible refine (c_eqNoteS_eq _ _ L _ HH15.out (HW3.out.below (Nat.le_refl _) S3)).mono ?_); rintro e w18 ⟨rfl, hb18⟩; have S2 := S2.trans (hb18.mono S2.size))
    have HM16 := Lib.hid (HM15.out.below (Nat.le_refl _) hb18)
    go_wp2_with fail
    (go_at_call 38; (with_reducible refine (c_heldNoteS _ L.length 1 _ HM16.out (by omega) (by omega) (by omega)).mono ?_); rintro e w19 ⟨rfl, rfl⟩)
    go_wp2_with fail
    go_ret
    exact ⟨rfl, S0.trans (S2.mono (by omega))⟩
  · go_enter Try.func13, Try.ntmps13
    go_wp2_with fail
    (go_at_call 28; (with_reducible refine (c_szNoteS_no A _ c 1048576 _ (by omega) (by omega) (by omega) (by omega)).mono ?_); rintro e wA ⟨rfl, hwA⟩)
    have S0 : Below w.heap.size w wA := by rw [← hwA]; exact bel1 _ _
    clear hwA
    go_wp2
    go_ret
    exact ⟨rfl, S0⟩
end Go.Proofs.Ytendoahanngacaa
