/- The walk of FnExactPlayedOrder. Conditions: none beyond the law's own. -/
import Derived.Test.YtpngjofplbnkjaaS16
namespace Go.Proofs.Ytpngjofplbnkjaa
open Go.RowKit
set_option linter.unusedSimpArgs false
set_option linter.unusedVariables false
set_option maxHeartbeats 8000000

def OrderOwn (xs : List Int) (w : World) (e : Ending) (w' : World) : Prop :=
  ∃ v, e = .returned v ∧ w'.ownsRow w.heap.size 3 1 v xs.length (intCells xs) ∧ xs.length ≤ 4000 ∧ Below w.heap.size w w'
theorem OrderMade.own {xs : List Int} {w : World} {e : Ending} {w' : World} (h : OrderMade xs w e w') : OrderOwn xs w e w' := by
  obtain ⟨g, n, cap, he, ho, hn, hb⟩ := h
  have hl : n = xs.length := by have := ho.1; rw [intCells_lenA] at this; omega
  subst hl
  exact ⟨_, he, ho, hn, hb⟩
theorem own_far {base e size n : Nat} {v : Value} {xs : List Value} {w w' : World} (h : w.ownsRow base e size v n xs) (hk : ∀ b, base ≤ b → b < w.heap.size → w'.heap[b]? = w.heap[b]?) : w'.ownsRow base e size v n xs := by
  refine ⟨h.1, ?_⟩
  rcases h.2 with h1 | ⟨g, cap, cur, hv, hb, hg, r⟩
  · exact .inl h1
  · exact .inr ⟨g, cap, cur, hv, hb, (hk g hb (Array.getElem?_eq_some_iff.1 hg).1).trans hg, r⟩
theorem own_blk {base e size g n cap m : Nat} {xs : List Value} {w : World} (h : w.ownsRow base e size (.slice (some ⟨g, 0, none⟩) n cap) m xs) : ∃ cur : Array Value, w.heap[g]? = some (.cells cur e (0, 0)) ∧ cur.size = cap * size ∧ cur.toList.take (m * size) = xs := by
  rcases h.2 with ⟨hc, _⟩ | ⟨g2, cap2, cur, hv, _, hg, _, _, hs, ht⟩
  · cases hc
  · cases hv
    exact ⟨cur, hg, hs, ht⟩
theorem c_PlayedOrder_own (v : Value) (ss : List Sec) (w : World) (h : RdS w v ss) : Calls Try.prog 42 #[v] w (OrderOwn (playedB (ss.map Sec.d)) w) := by
  cases hv : secsOk (ss.map Sec.d)
  · refine (c_PlayedOrder_no v ss w h hv).mono fun e w' ⟨he, hb⟩ => ⟨_, he, ?_, ?_, hb⟩
    · rw [playedB_no hv]; exact ⟨rfl, .inl ⟨rfl, rfl⟩⟩
    · rw [playedB_no hv]; simp
  · exact (c_PlayedOrder v ss w h hv).mono fun e w' hh => hh.own
theorem c_sPlayedOrder_own (v : Value) (ss : List Sec) (w : World) (h : RdS w v ss) : Calls Try.prog 45 #[v] w (OrderOwn (playedB (ss.map Sec.d)) w) := by
  cases hv : secsOk (ss.map Sec.d)
  · refine (c_sPlayedOrder_no v ss w h hv).mono fun e w' hh => ?_
    rw [playedB_no hv]; exact hh.own
  · exact (c_sPlayedOrder v ss w h hv).mono fun e w' hh => hh.own
theorem c_eqIntS_eq (u v : Value) (l : List Int) (w : World) (ha : Rd w u 1 l.length (intCells l)) (hb : Rd w v 1 l.length (intCells l)) :
    Calls Try.prog 21 #[u, v] w fun e w' => e = .returned (.bool true) ∧ Below w.heap.size w w' := by
  have h := c_eqIntS u v l l w ha hb
  rwa [decide_eq_true (rfl : l = l)] at h
set_option maxRecDepth 100000 in
theorem walk_FnExactPlayedOrder (w : World) (v : Value) (ss : List Sec) (h : Rd w v 3 ss.length (secCells ss)) (g : ∀ a ∈ ss, a.Good w) :
    Calls Try.prog 14 #[v] w fun e w' => e = .returned (.bool true) ∧ Below w.heap.size w w' := by
  have h' := Lib.hid (RdS.of_good h g)
  obtain ⟨_, A, c, rfl, hnc, hcm, hA⟩ := h
  clear hA g
  have S2 := Below.refl w.heap.size w
  cases hz : szS 1048576 ss with
  | none =>
    have HZ := Lib.hid (show szVal (szS 1048576 ss) = -1 by rw [hz]; rfl)
    clear hz
    go_enter Try.func14, Try.ntmps14
    go_wp2_with fail
    (go_at_call 36; (with_reducible refine (c_szSectionS_top _ ss _ (h'.out.later S2)).mono ?_); rintro e w1 ⟨rfl, hb1⟩; have S2 := (S2.trans (hb1.mono S2.size)))
    rw [HZ.out]
    go_wp2
    go_ret
    exact ⟨rfl, S2⟩
  | some r =>
    have HZ := Lib.hid (show szVal (szS 1048576 ss) = (r : Int) by rw [hz]; rfl)
    obtain ⟨hn, hr, hs⟩ := szS_some hz
    have HS := Lib.hid hs
    clear hz hs
    go_enter Try.func14, Try.ntmps14
    go_wp2_with fail
    (go_at_call 36; (with_reducible refine (c_szSectionS_top _ ss _ (h'.out.later S2)).mono ?_); rintro e w1 ⟨rfl, hb1⟩; have S2 := (S2.trans (hb1.mono S2.size)))
    rw [HZ.out]
    go_wp2_with fail
    (go_at_call 37; (with_reducible refine (c_toSectionS _ ss _ (h'.out.later S2) hn HS.out).mono ?_); rintro e w2 ⟨v2, ss2, rfl, hd2, ho2, hi2, hb2⟩; have S2 := (S2.trans (hb2.mono S2.size)))
    have HR2 := Lib.hid (RdS.of_own ho2 hi2)
    have HD2 := Lib.hid hd2
    clear ho2 hi2 hd2
    go_wp2_with fail
    (go_at_call 45; (with_reducible refine (c_sPlayedOrder_own _ ss2 _ HR2.out).mono ?_); rintro e w3 hpost; rw [HD2.out] at hpost; obtain ⟨vw, rfl, how, hlw, hb3⟩ := hpost; have S2 := S2.trans (hb3.mono S2.size))
    have HW3 := Lib.hid (Rd.of_own how)
    clear how
    have S3 := Below.refl w3.heap.size w3
    go_wp2_with fail
    (go_at_call 37; (with_reducible refine (c_toSectionS_at _ ss _ (h'.out.later S2) hn HS.out).mono ?_); rintro e w4 ⟨ss4, rfl, hd4, ho4, hi4, hb4⟩; have S2 := S2.trans (hb4.mono S2.size); have S3 := S3.trans (hb4.mono S3.size))
    have hlen4 := map_d_len hd4
    have HR4 := Lib.hid (RdS.of_own ho4 hi4)
    have HD4 := Lib.hid hd4
    have HO4 := Lib.hid ho4
    have HI4 := Lib.hid hi4
    have hg4 : w3.heap.size < w4.heap.size := (ho4.lt w3.heap.size rfl).2
    have HHi := Lib.hid (show ∀ s ∈ ss4, ∀ b, s.v.ownBlock = some b → b < w4.heap.size from fun s hs b hb => ((hi4 s hs).lt b hb).2)
    have HS4 := Lib.hid (show ∀ s ∈ ss4, s.l.length ≤ 1048576 from fun s hs => by
      obtain ⟨i, hi, rfl⟩ := List.getElem_of_mem hs
      have hi' : i < ss.length := by omega
      have := List.getElem_of_eq hd4 (i := i) (by simpa using hi)
      simp only [List.getElem_map] at this
      have e3 : ss4[i].l = ss[i].l := congrArg SD.l this
      rw [e3]
      exact HS.out _ (List.getElem_mem hi'))
    clear ho4 hi4 hd4
    go_wp2_with fail
    (go_at_call 42; (with_reducible refine (c_PlayedOrder_own _ ss4 _ HR4.out).mono ?_); rintro e w5 hpost; rw [HD4.out] at hpost; obtain ⟨vg, rfl, hog, hlg, hb5⟩ := hpost; have S2 := S2.trans (hb5.mono S2.size); have S3 := S3.trans (hb5.mono S3.size))
    generalize hXX : playedB (ss.map Sec.d) = X at *
    have HXX := Lib.hid hXX
    clear hXX
    have S4 := hb5
    have HOG5 := Lib.hid hog
    clear hog
    go_wp2_with fail
    (go_at_call 21; (with_reducible refine (c_eqIntS_eq _ _ X _ (Rd.of_own HOG5.out) (HW3.out.below (Nat.le_refl _) S3)).mono ?_); rintro e w6 ⟨rfl, hb6⟩; have S2 := S2.trans (hb6.mono S2.size); have S3 := S3.trans (hb6.mono S3.size); have S4 := S4.trans (hb6.mono S4.size))
    have HOG6 := Lib.hid (own_belA HOG5.out hb6)
    go_wp2_with fail
    (go_at_call 37; (with_reducible refine (c_toSectionS _ ss _ (h'.out.later S2) hn HS.out).mono ?_); rintro e w7 ⟨v7, ss7, rfl, hd7, ho7, hi7, hb7⟩; have S2 := S2.trans (hb7.mono S2.size); have S3 := S3.trans (hb7.mono S3.size); have S4 := S4.trans (hb7.mono S4.size))
    have HOG7 := Lib.hid (own_belA HOG6.out hb7)
    have HR7 := Lib.hid (RdS.of_own ho7 hi7)
    have HD7 := Lib.hid hd7
    clear ho7 hi7 hd7
    go_wp2_with fail
    (go_at_call 38; (with_reducible refine (c_eqSectionS _ _ ss4 ss7 _ (HR4.out.later S4) HR7.out (HD4.out.trans HD7.out.symm)).mono ?_); rintro e w8 ⟨rfl, hb8⟩; have S2 := S2.trans (hb8.mono S2.size); have S3 := S3.trans (hb8.mono S3.size); have S4 := S4.trans (hb8.mono S4.size))
    have HOG8 := Lib.hid (own_belA HOG7.out hb8)
    obtain ⟨cur8, hh8, hs8, ht8⟩ := own_blk (own_belA HO4.out S4)
    have HH8 := Lib.hid hh8
    have HS8 := Lib.hid (show cur8.size = ss4.length * 3 by rw [hs8, hlen4])
    have HV8 := Lib.hid (show ∀ j (hj : j < ss4.length), cur8[j * 3 + 2]? = some ss4[j].v from fun j hj => by
      have h1 := cellsOf_get Sec.cells 3 Sec.cells_len ss4 j 2 (by omega) hj
      rw [← Array.getElem?_toList, show cur8.toList = secCells ss4 by rw [← ht8, List.take_of_length_le (by rw [Array.length_toList, hs8, hlen4]; omega)], h1]
      rfl)
    have HI8 := Lib.hid (show ∀ s ∈ ss4, ∃ xs, w8.ownsRow (w3.heap.size + 1) 3 1 s.v s.l.length xs from fun s hs => ⟨_, own_belA (HI4.out s hs) S4⟩)
    have hn4 : ss4.length ≤ 1048576 := by omega
    have HL4 := Lib.hid hlen4
    clear hh8 hs8 ht8 hlen4
    go_wp2_with fail
    (go_at_call 46; rw [← HL4.out]; (with_reducible refine (c_markSectionS w3.heap.size w4.heap.size ss4 _ cur8 HH8.out HS8.out HV8.out HI8.out hn4 HS4.out hg4 HHi.out).mono ?_); rintro e w9 ⟨M, rfl, hM0, hb9, hfar⟩; rw [HL4.out])
    have hz3 := S3.size
    have hw3 : w.heap.size ≤ w3.heap.size := by have := hb3.size; have := hb2.size; have := hb1.size; omega
    have S2 := S2.trans (hb9.mono hw3)
    have S3 := S3.trans hb9
    have HOG9 := Lib.hid (own_far HOG8.out hfar)
    have hz49 : w4.heap.size ≤ w9.heap.size := by have := hb9.size; have := S4.size; omega
    have hM9 : ¬ M < 0 := by omega
    clear hfar S4
    go_wp2_with fail
    (go_at_call 21; (with_reducible refine (c_eqIntS_eq _ _ X _ (Rd.of_own HOG9.out) (HW3.out.below (Nat.le_refl _) S3)).mono ?_); rintro e w10 ⟨rfl, hb10⟩; have S2 := S2.trans (hb10.mono S2.size); have S3 := S3.trans (hb10.mono S3.size))
    have HOG10 := Lib.hid (own_belA HOG9.out hb10)
    have hz10 : w4.heap.size ≤ w10.heap.size := by have := hb10.size; omega
    go_wp2_with fail
    (go_at_call 47; (with_reducible refine (c_markIntS w4.heap.size _ X.length _ 1 _ HOG10.out (by omega) (by omega) (by omega)).mono ?_); rintro e w11 ⟨rfl, hown11, hk11⟩)
    have hb11 := bel_append (Below.refl w4.heap.size w10) HOG10.out hk11 (Nat.le_refl _) hz10
    have S2 := S2.trans (hb11.mono (by omega))
    have S3 := S3.trans (hb11.mono (by omega))
    have HM11 := Lib.hid hown11
    have HRM11 := Lib.hid (Rd.of_own hown11)
    clear hown11 hk11
    have hXl : (X.length : Int) ≤ 4000 := by omega
    go_wp2_with fail
    (go_at_call 48; (with_reducible refine (c_heldIntS _ X.length 1 _ HRM11.out (by omega) (by omega) (by omega)).mono ?_); rintro e w12 ⟨rfl, rfl⟩)
    go_wp2_with fail
    (go_at_call 37; (with_reducible refine (c_toSectionS _ ss _ (h'.out.later S2) hn HS.out).mono ?_); rintro e w12 ⟨v12, ss12, rfl, hd12, ho12, hi12, hb12⟩; have S2 := S2.trans (hb12.mono S2.size); have S3 := S3.trans (hb12.mono S3.size))
    have HRM12 := Lib.hid (HRM11.out.below (Nat.le_refl _) hb12)
    have HR12 := Lib.hid (RdS.of_own ho12 hi12)
    have HD12 := Lib.hid hd12
    clear ho12 hi12 hd12
    go_wp2_with fail
    (go_at_call 42; (with_reducible refine (c_PlayedOrder_own _ ss12 _ HR12.out).mono ?_); rintro e w13 hpost; rw [HD12.out, HXX.out] at hpost; obtain ⟨vh, rfl, hoh, hlh, hb13⟩ := hpost; have S2 := S2.trans (hb13.mono S2.size); have S3 := S3.trans (hb13.mono S3.size))
    have HRM13 := Lib.hid (HRM12.out.below (Nat.le_refl _) hb13)
    have HOH := Lib.hid hoh
    clear hoh
    go_wp2_with fail
    (go_at_call 21; (with_reducible refine (c_eqIntS_eq _ _ X _ (Rd.of_own HOH.out) (HW3.out.below (Nat.le_refl _) S3)).mono ?_); rintro e w14 ⟨rfl, hb14⟩; have S2 := S2.trans (hb14.mono S2.size))
    have HRM14 := Lib.hid (HRM13.out.below (Nat.le_refl _) hb14)
    go_wp2_with fail
    (go_at_call 48; (with_reducible refine (c_heldIntS _ X.length 1 _ HRM14.out (by omega) (by omega) (by omega)).mono ?_); rintro e w15 ⟨rfl, rfl⟩)
    go_wp2_with fail
    go_ret
    exact ⟨rfl, S2⟩
end Go.Proofs.Ytpngjofplbnkjaa
