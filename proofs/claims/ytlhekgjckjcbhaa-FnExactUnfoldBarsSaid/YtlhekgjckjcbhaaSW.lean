/- The walk of FnExactUnfoldBars. Conditions: none beyond the law's own. -/
import Derived.Test.YtlhekgjckjcbhaaSU
import Derived.Test.YtlhekgjckjcbhaaS17
namespace Go.Proofs.Ytlhekgjckjcbhaa
open Go.RowKit
set_option linter.unusedSimpArgs false
set_option linter.unusedVariables false
set_option maxHeartbeats 16000000
theorem own_apart {base base' e e' size size' n n' : Nat} {u v : Value} {xs ys : List Value} {w w' : World} (h : w.ownsRow base e size u n xs) (hv : ∀ b, v.ownBlock = some b → b < base) (hk : w.grownBy w' v.ownBlock) : w'.ownsRow base e size u n xs :=
  h.kept hk (by
    cases hu : u.ownBlock with
    | none => exact .inl rfl
    | some k =>
      right
      intro e
      have := hv k e.symm
      have := (h.lt k hu).1
      omega)
theorem c_markStringS1 (base : Nat) (v : Value) (n : Nat) (xs : List Value) (w : World) (h : w.ownsRow base 9 1 v n xs) (hn : n ≤ 1048576) :
    Calls Try.prog 33 #[v, .int .i64 1] w (MarkedT base v n (strCells (mkTs 1 n)) (1 + (n : Int)) w) := by
  have := c_markStringS base v n xs 1 w h hn (by omega)
  rw [show ((1 + n : Nat) : Int) = 1 + (n : Int) by omega] at this
  exact this
theorem c_heldStringS1 (v : Value) (n : Nat) (w : World) (h : Rd w v 1 n (strCells (mkTs 1 n))) (hn : n ≤ 1048576) :
    Calls Try.prog 34 #[v, .int .i64 1] w fun e w' => e = .returned (.int .i64 (1 + (n : Int))) ∧ Below w.heap.size w w' := by
  have := c_heldStringS v n 1 w h hn (by omega)
  rw [show ((1 + n : Nat) : Int) = 1 + (n : Int) by omega] at this
  exact this
set_option maxRecDepth 100000 in
theorem walk_FnExactUnfoldBars (w : World) (v : Value) (ss : List Sec) (h : Rd w v 3 ss.length (secCells ss)) (g : ∀ a ∈ ss, a.Good w) (vb : Value) (bs : List ByteArray) (hb : Rd w vb 1 bs.length (strCells bs)) (gb : ∀ a ∈ bs, a.size ≤ maxLen) :
    Calls Try.prog 7 #[v, vb] w fun e w' => e = .returned (.bool true) ∧ Below w.heap.size w w' := by
  have h' := Lib.hid (RdS.of_good h g)
  have hb' := Lib.hid hb
  have gb' := Lib.hid gb
  obtain ⟨_, A, c, rfl, hnc, hcm, hA⟩ := h
  obtain ⟨_, Ab, cb, rfl, hncb, hcmb, hAb⟩ := hb
  clear hA g hAb gb
  have S2 := Below.refl w.heap.size w
  cases hz : szS 1048576 ss with
  | none =>
    have HZ := Lib.hid (show szVal (szS 1048576 ss) = -1 by rw [hz]; rfl)
    clear hz
    go_enter Try.func7, Try.ntmps7
    go_wp2_with fail
    (go_at_call 24; (with_reducible refine (c_szSectionS_top _ ss _ (h'.out.later S2)).mono ?_); rintro e w1 ⟨rfl, hb1⟩; have S2 := (S2.trans (hb1.mono S2.size)))
    rw [HZ.out]
    go_wp2
    go_ret
    exact ⟨rfl, S2⟩
  | some r =>
    have HZ := Lib.hid (show szVal (szS 1048576 ss) = (r : Int) by rw [hz]; rfl)
    obtain ⟨hn, hr, hs⟩ := szS_some hz
    have HS := Lib.hid hs
    clear hz hs
    go_enter Try.func7, Try.ntmps7
    go_wp2_with fail
    (go_at_call 24; (with_reducible refine (c_szSectionS_top _ ss _ (h'.out.later S2)).mono ?_); rintro e w1 ⟨rfl, hb1⟩; have S2 := (S2.trans (hb1.mono S2.size)))
    rw [HZ.out]
    go_wp2_with fail
    (go_at_call 25; (with_reducible refine (c_szStringS _ bs r _ (hb'.out.below (Nat.le_refl _) S2) gb'.out hr).mono ?_); rintro e w1' ⟨r2, rfl, rfl, hr1, hr2, hr3⟩)
    by_cases hr0 : r2 < 0
    · go_wp2_with fail
      go_ret
      exact ⟨rfl, S2⟩
    · have hbn : bs.length ≤ 1048576 := by have := hr3 (by omega); omega
      clear hr3
      go_wp2_with fail
      (go_at_call 27; (with_reducible refine (c_toSectionS _ ss _ (h'.out.later S2) hn HS.out).mono ?_); rintro e w2 ⟨v2, ss2, rfl, hd2, ho2, hi2, hb2⟩; have S2 := (S2.trans (hb2.mono S2.size)))
      have HR2 := Lib.hid (RdS.of_own ho2 hi2)
      have HD2 := Lib.hid hd2
      clear ho2 hi2 hd2
      go_wp2_with fail
      (go_at_call 28; (with_reducible refine (c_toStringS _ bs _ (hb'.out.below (Nat.le_refl _) S2) hbn).mono ?_); rintro e w3 ⟨v3, rfl, ho3, hb3⟩; have S2 := S2.trans (hb3.mono S2.size))
      have HR3 := Lib.hid (HR2.out.later hb3)
      go_wp2_with fail
      (go_at_call 26; (with_reducible refine (c_sUnfoldBars _ _ ss2 bs _ HR3.out (Rd.of_own ho3)).mono ?_); rintro e w4 hpost; rw [HD2.out] at hpost; obtain ⟨vw, rfl, how, hlw, hb4⟩ := hpost; have S2 := S2.trans (hb4.mono S2.size))
      have HW4 := Lib.hid (Rd.of_own how)
      clear how ho3
      have S4 := Below.refl w4.heap.size w4
      have hz4 := S2.size
      go_wp2_with fail
      (go_at_call 27; (with_reducible refine (c_toSectionS_at _ ss _ (h'.out.later S2) hn HS.out).mono ?_); rintro e w5 ⟨ss5, rfl, hd5, ho5, hi5, hb5⟩; have S2 := S2.trans (hb5.mono S2.size); have S4 := S4.trans (hb5.mono S4.size))
      have hlen5 := map_d_len hd5
      have HR5 := Lib.hid (RdS.of_own ho5 hi5)
      have HD5 := Lib.hid hd5
      have HO5 := Lib.hid ho5
      have HI5 := Lib.hid hi5
      have hg5 : w4.heap.size < w5.heap.size := (ho5.lt w4.heap.size rfl).2
      have HHi := Lib.hid (show ∀ s ∈ ss5, ∀ b, s.v.ownBlock = some b → b < w5.heap.size from fun s hs b hb => ((hi5 s hs).lt b hb).2)
      have HS5 := Lib.hid (show ∀ s ∈ ss5, s.l.length ≤ 1048576 from fun s hs => by
        obtain ⟨i, hi, rfl⟩ := List.getElem_of_mem hs
        have hi' : i < ss.length := by omega
        have := List.getElem_of_eq hd5 (i := i) (by simpa using hi)
        simp only [List.getElem_map] at this
        have e3 : ss5[i].l = ss[i].l := congrArg SD.l this
        rw [e3]
        exact HS.out _ (List.getElem_mem hi'))
      clear ho5 hi5 hd5
      go_wp2_with fail
      (go_at_call 28; (with_reducible refine (c_toStringS _ bs _ (hb'.out.below (Nat.le_refl _) S2) hbn).mono ?_); rintro e w6 ⟨v6, rfl, ho6, hb6⟩; have S2 := S2.trans (hb6.mono S2.size); have S4 := S4.trans (hb6.mono S4.size))
      have S5 := hb6
      have HX6 := Lib.hid ho6
      have HB6 := Lib.hid (show ∀ b, v6.ownBlock = some b → b < w6.heap.size from fun b hb => (ho6.lt b hb).2)
      have HR6 := Lib.hid (HR5.out.later hb6)
      clear ho6
      go_wp2_with fail
      (go_at_call 29; (with_reducible refine (c_UnfoldBars _ _ ss5 bs _ HR6.out (Rd.of_own HX6.out)).mono ?_); rintro e w7 hpost; rw [HD5.out] at hpost; obtain ⟨vg, rfl, hog, hlg, hb7⟩ := hpost; have S2 := S2.trans (hb7.mono S2.size); have S4 := S4.trans (hb7.mono S4.size); have S5 := S5.trans (hb7.mono S5.size))
      generalize hXX : unfL (ss.map Sec.d) bs = X at *
      generalize hOO : unfOk (ss.map Sec.d) bs = ok at *
      have HXX := Lib.hid hXX
      have HOO := Lib.hid hOO
      clear hXX hOO
      have HG7 := Lib.hid hog
      have HX7 := Lib.hid (own_belA HX6.out hb7)
      clear hog
      cases ok
      all_goals
        go_wp2_with fail
        (go_at_call 30; (with_reducible refine (c_eqStringS_eq _ _ X _ (Rd.of_own HG7.out) (HW4.out.below (Nat.le_refl _) S4)).mono ?_); rintro e w8 ⟨rfl, hb8⟩; have S2 := S2.trans (hb8.mono S2.size); have S4 := S4.trans (hb8.mono S4.size); have S5 := S5.trans (hb8.mono S5.size))
        have HG8 := Lib.hid (own_belA HG7.out hb8)
        have HX8 := Lib.hid (own_belA HX7.out hb8)
        go_wp2_with fail
        (go_at_call 27; (with_reducible refine (c_toSectionS _ ss _ (h'.out.later S2) hn HS.out).mono ?_); rintro e w9 ⟨v9, ss9, rfl, hd9, ho9, hi9, hb9⟩; have S2 := S2.trans (hb9.mono S2.size); have S4 := S4.trans (hb9.mono S4.size); have S5 := S5.trans (hb9.mono S5.size))
        have HG9 := Lib.hid (own_belA HG8.out hb9)
        have HX9 := Lib.hid (own_belA HX8.out hb9)
        have HR9 := Lib.hid (RdS.of_own ho9 hi9)
        have HD9 := Lib.hid hd9
        clear ho9 hi9 hd9
        go_wp2_with fail
        (go_at_call 31; (with_reducible refine (c_eqSectionS _ _ ss5 ss9 _ (HR5.out.later S5) HR9.out (HD5.out.trans HD9.out.symm)).mono ?_); rintro e w10 ⟨rfl, hb10⟩; have S2 := S2.trans (hb10.mono S2.size); have S4 := S4.trans (hb10.mono S4.size); have S5 := S5.trans (hb10.mono S5.size))
        have HG10 := Lib.hid (own_belA HG9.out hb10)
        have HX10 := Lib.hid (own_belA HX9.out hb10)
        go_wp2_with fail
        (go_at_call 28; (with_reducible refine (c_toStringS _ bs _ (hb'.out.below (Nat.le_refl _) S2) hbn).mono ?_); rintro e w11 ⟨v11, rfl, ho11, hb11⟩; have S2 := S2.trans (hb11.mono S2.size); have S4 := S4.trans (hb11.mono S4.size); have S5 := S5.trans (hb11.mono S5.size))
        have HG11 := Lib.hid (own_belA HG10.out hb11)
        have HX11 := Lib.hid (own_belA HX10.out hb11)
        go_wp2_with fail
        (go_at_call 30; (with_reducible refine (c_eqStringS_eq _ _ bs _ (Rd.of_own HX11.out) (Rd.of_own ho11)).mono ?_); rintro e w12 ⟨rfl, hb12⟩; have S2 := S2.trans (hb12.mono S2.size); have S4 := S4.trans (hb12.mono S4.size); have S5 := S5.trans (hb12.mono S5.size))
        have HG12 := Lib.hid (own_belA HG11.out hb12)
        have HX12 := Lib.hid (own_belA HX11.out hb12)
        clear ho11
        obtain ⟨cur8, hh8, hs8, ht8⟩ := own_blk (own_belA HO5.out S5)
        have HH8 := Lib.hid hh8
        have HS8 := Lib.hid (show cur8.size = ss5.length * 3 by rw [hs8, hlen5])
        have HV8 := Lib.hid (show ∀ j (hj : j < ss5.length), cur8[j * 3 + 2]? = some ss5[j].v from fun j hj => by
          have h1 := cellsOf_get Sec.cells 3 Sec.cells_len ss5 j 2 (by omega) hj
          rw [← Array.getElem?_toList, show cur8.toList = secCells ss5 by rw [← ht8, List.take_of_length_le (by rw [Array.length_toList, hs8, hlen5]; omega)], h1]
          rfl)
        have HI8 := Lib.hid (show ∀ s ∈ ss5, ∃ xs, w12.ownsRow (w4.heap.size + 1) 3 1 s.v s.l.length xs from fun s hs => ⟨_, own_belA (HI5.out s hs) S5⟩)
        have hn5 : ss5.length ≤ 1048576 := by omega
        have HL5 := Lib.hid hlen5
        clear hh8 hs8 ht8 hlen5
        go_wp2_with fail
        (go_at_call 32; rw [← HL5.out]; (with_reducible refine (c_markSectionS w4.heap.size w5.heap.size ss5 _ cur8 HH8.out HS8.out HV8.out HI8.out hn5 HS5.out hg5 HHi.out).mono ?_); rintro e w13 ⟨M, rfl, hM0, hb13, hfar, hM9⟩; rw [HL5.out])
        have hz12 := S4.size
        have hz512 := S5.size
        have S2 := S2.trans (hb13.mono hz4)
        have S4 := S4.trans hb13
        have hz56 := hb6.size
        have HG13 := Lib.hid (own_far HG12.out (fun b h1 h2 => hfar b (by omega) h2))
        have HX13 := Lib.hid (own_far HX12.out hfar)
        have hz13 := hb13.size
        clear hfar S5
        obtain ⟨Mn, rfl⟩ := Int.eq_ofNat_of_zero_le hM0
        go_wp2_with fail
        (go_at_call 33; (with_reducible refine (c_markStringS w5.heap.size _ bs.length _ Mn _ HX13.out hbn (by omega)).mono ?_); rintro e w14 ⟨rfl, hown14, hk14⟩)
        have hb14 := bel_append (Below.refl w5.heap.size w13) HX13.out hk14 (Nat.le_refl _) (by omega)
        have S2 := S2.trans (hb14.mono (by omega))
        have S4 := S4.trans (hb14.mono (by omega))
        have HG14 := Lib.hid (own_apart (base' := 0) (e' := 0) (size' := 0) (n' := 0) (ys := []) HG13.out HB6.out hk14)
        clear hown14 hk14
        go_wp2_with fail
        (go_at_call 30; (with_reducible refine (c_eqStringS_eq _ _ X _ (Rd.of_own HG14.out) (HW4.out.below (Nat.le_refl _) S4)).mono ?_); rintro e w15 ⟨rfl, hb15⟩; have S2 := S2.trans (hb15.mono S2.size); have S4 := S4.trans (hb15.mono S4.size))
        have HG15 := Lib.hid (own_belA HG14.out hb15)
        have hz15 := hb15.size
        have hz14 := hb14.size
        have hz67 : w6.heap.size ≤ w15.heap.size := by have := hb7.size; have := hb8.size; have := hb9.size; have := hb10.size; have := hb11.size; have := hb12.size; omega
        have hXl : (X.length : Int) ≤ 4000 := by omega
        go_wp2_with fail
        (go_at_call 33; (with_reducible refine (c_markStringS1 w6.heap.size _ X.length _ _ HG15.out (by omega)).mono ?_); rintro e w16 ⟨rfl, hown16, hk16⟩)
        have hb16 := bel_append (Below.refl w6.heap.size w15) HG15.out hk16 (Nat.le_refl _) hz67
        have hz26 : w.heap.size ≤ w6.heap.size := by have := hb5.size; omega
        have hz46 : w4.heap.size ≤ w6.heap.size := by omega
        have S2 := S2.trans (hb16.mono hz26)
        have S4 := S4.trans (hb16.mono hz46)
        have HM16 := Lib.hid (Rd.of_own hown16)
        clear hown16 hk16
        go_wp2_with fail
        (go_at_call 34; (with_reducible refine (c_heldStringS1 _ X.length _ HM16.out (by omega)).mono ?_); rintro e w17 ⟨rfl, hb17⟩; have S2 := S2.trans (hb17.mono S2.size); have S4 := S4.trans (hb17.mono S4.size))
        have HM17 := Lib.hid (HM16.out.below (Nat.le_refl _) hb17)
        go_wp2_with fail
        (go_at_call 27; (with_reducible refine (c_toSectionS _ ss _ (h'.out.later S2) hn HS.out).mono ?_); rintro e w18 ⟨v18, ss18, rfl, hd18, ho18, hi18, hb18⟩; have S2 := S2.trans (hb18.mono S2.size); have S4 := S4.trans (hb18.mono S4.size))
        have HM18 := Lib.hid (HM17.out.below (Nat.le_refl _) hb18)
        have HR18 := Lib.hid (RdS.of_own ho18 hi18)
        have HD18 := Lib.hid hd18
        clear ho18 hi18 hd18
        go_wp2_with fail
        (go_at_call 28; (with_reducible refine (c_toStringS _ bs _ (hb'.out.below (Nat.le_refl _) S2) hbn).mono ?_); rintro e w19 ⟨v19, rfl, ho19, hb19⟩; have S2 := S2.trans (hb19.mono S2.size); have S4 := S4.trans (hb19.mono S4.size))
        have HM19 := Lib.hid (HM18.out.below (Nat.le_refl _) hb19)
        have HR19 := Lib.hid (HR18.out.later hb19)
        go_wp2_with fail
        (go_at_call 29; (with_reducible refine (c_UnfoldBars _ _ ss18 bs _ HR19.out (Rd.of_own ho19)).mono ?_); rintro e w20 hpost; rw [HD18.out] at hpost; unfold UnfMade at hpost; rw [HXX.out, HOO.out] at hpost; obtain ⟨vh, rfl, hoh, hlh, hb20⟩ := hpost; have S2 := S2.trans (hb20.mono S2.size); have S4 := S4.trans (hb20.mono S4.size))
        have HM20 := Lib.hid (HM19.out.below (Nat.le_refl _) hb20)
        have HOH := Lib.hid hoh
        clear hoh ho19
        go_wp2_with fail
        (go_at_call 30; (with_reducible refine (c_eqStringS_eq _ _ X _ (Rd.of_own HOH.out) (HW4.out.below (Nat.le_refl _) S4)).mono ?_); rintro e w21 ⟨rfl, hb21⟩; have S2 := S2.trans (hb21.mono S2.size))
        have HM21 := Lib.hid (HM20.out.below (Nat.le_refl _) hb21)
        go_wp2_with fail
        (go_at_call 34; (with_reducible refine (c_heldStringS1 _ X.length _ HM21.out (by omega)).mono ?_); rintro e w22 ⟨rfl, hb22⟩; have S2 := S2.trans (hb22.mono S2.size))
        go_wp2_with fail
        go_ret
        exact ⟨rfl, S2⟩
end Go.Proofs.Ytlhekgjckjcbhaa
