/- The walk of FnExactKeyClasses. Conditions: none beyond the law's own. -/
import Derived.Test.YtpbmmhdpmpoabaaK4
import Derived.Test.YtpbmmhdpmpoabaaKM
import Derived.Test.YtpbmmhdpmpoabaaK5
namespace Go.Proofs.Ytpbmmhdpmpoabaa
open Go.RowKit
set_option linter.unusedSimpArgs false
set_option linter.unusedVariables false
set_option maxHeartbeats 16000000
theorem own_apart {w : World} {B1 B2 e1 e2 s1 s2 n1 n2 : Nat} {v1 v2 : Value} {x1 x2 : List Value} (h : w.ownsRow B1 e1 s1 v1 n1 x1) (hlt : ∀ k, v1.ownBlock = some k → k < B2) {W : World} (h2 : W.ownsRow B2 e2 s2 v2 n2 x2) : v2.ownBlock = none ∨ v2.ownBlock ≠ v1.ownBlock := by
  cases hv : v2.ownBlock with
  | none => exact .inl rfl
  | some k =>
    right
    intro hh
    have h3 := hlt k hh.symm
    have h4 := (h2.lt k hv).1
    omega
theorem c_eqIntSK (u v : Value) (l : List Int) (w : World) (ha : Rd w u 1 l.length (intCells l)) (hb : Rd w v 1 l.length (intCells l)) :
    Calls Try.prog 26 #[u, v] w fun e w' => e = .returned (.bool true) ∧ Below w.heap.size w w' := by
  have h := c_eqIntS u v l l w ha hb
  rwa [decide_eq_true (rfl : l = l)] at h
theorem keyCls_len (ns : List Pit) : (keyCls ns).length ≤ 12 := by
  unfold keyCls
  split
  · exact clsTo_len ns 12
  · simp
set_option maxRecDepth 100000 in
theorem walk_FnExactKeyClasses (w : World) (v : Value) (ns : List Pit) (hr : Rd w v 3 ns.length (pitCells ns)) (hgd : ∀ a ∈ ns, a.Good) :
    Calls Try.prog 7 #[v] w fun e w' => e = .returned (.bool true) ∧ Below w.heap.size w w' := by
  clear hgd
  have HR := Lib.hid hr
  obtain ⟨_, A, c, rfl, hnc, hcm, hA⟩ := hr
  unfold maxLen at hcm
  clear hA
  have S := Below.refl w.heap.size w
  by_cases hlen : (ns.length : Int) ≤ 1048576
  · have hn : ns.length ≤ 1048576 := by omega
    have hsz0 : ¬ ((1048576 : Int) - ns.length < 0) := by omega
    obtain ⟨X, hX⟩ : ∃ X, keyCls ns = X := ⟨_, rfl⟩
    have hXl : X.length ≤ 12 := by rw [← hX]; exact keyCls_len ns
    have HXX := Lib.hid hX
    clear hX
    go_enter Try.func7, Try.ntmps7
    go_wp2_with fail
    (go_at_call 13; (with_reducible refine (c_szPitchS A _ c 1048576 _ (by omega) (by omega) (by omega) hlen).mono ?_); rintro e wA ⟨rfl, rfl⟩)
    go_wp2_with fail
    (go_at_call 15; (with_reducible refine (c_toPitchS _ ns _ HR.out hn).mono ?_); rintro e w2 ⟨v2, rfl, ho2, hb2⟩; have S := S.trans (hb2.mono S.size))
    have HR2 := Lib.hid (Rd.of_own ho2)
    clear ho2
    go_wp2_with fail
    (go_at_call 24; (with_reducible refine (c_sKeyClasses _ ns _ HR2.out).mono ?_); rintro e w3 hpost; rw [HXX.out] at hpost; obtain ⟨vw, rfl, how, hb3⟩ := hpost; have S := S.trans (hb3.mono S.size))
    have HW := Lib.hid (Rd.of_own how)
    clear how
    have S3 := Below.refl w3.heap.size w3
    go_wp2_with fail
    (go_at_call 15; (with_reducible refine (c_toPitchS _ ns _ (HR.out.below (Nat.le_refl _) S) hn).mono ?_); rintro e w4 ⟨v4, rfl, ho4, hb4⟩; have S := S.trans (hb4.mono S.size); have S3 := S3.trans (hb4.mono S3.size))
    have HO4 := Lib.hid ho4
    have HL4 := Lib.hid (show ∀ k, v4.ownBlock = some k → k < w4.heap.size from fun k hk => (ho4.lt k hk).2)
    clear ho4
    have S4 := Below.refl w4.heap.size w4
    go_wp2_with fail
    (go_at_call 25; (with_reducible refine (c_KeyClasses _ ns _ (Rd.of_own HO4.out)).mono ?_); rintro e w5 hpost; rw [HXX.out] at hpost; obtain ⟨vg, rfl, hog, hb5⟩ := hpost; have S := S.trans (hb5.mono S.size); have S3 := S3.trans (hb5.mono S3.size); have S4 := S4.trans (hb5.mono S4.size))
    have HO5 := Lib.hid (own_belA HO4.out hb5)
    have HG5 := Lib.hid hog
    clear hog
    go_wp2_with fail
    (go_at_call 26; (with_reducible refine (c_eqIntSK _ _ X _ (Rd.of_own HG5.out) (HW.out.below (Nat.le_refl _) S3)).mono ?_); rintro e w6 ⟨rfl, hb6⟩; have S := S.trans (hb6.mono S.size); have S3 := S3.trans (hb6.mono S3.size); have S4 := S4.trans (hb6.mono S4.size))
    have HO6 := Lib.hid (own_belA HO5.out hb6)
    have HG6 := Lib.hid (own_belA HG5.out hb6)
    go_wp2_with fail
    (go_at_call 15; (with_reducible refine (c_toPitchS _ ns _ (HR.out.below (Nat.le_refl _) S) hn).mono ?_); rintro e w7 ⟨v7, rfl, ho7, hb7⟩; have S := S.trans (hb7.mono S.size); have S3 := S3.trans (hb7.mono S3.size); have S4 := S4.trans (hb7.mono S4.size))
    have HO7 := Lib.hid (own_belA HO6.out hb7)
    have HG7 := Lib.hid (own_belA HG6.out hb7)
    have HR7 := Lib.hid (Rd.of_own ho7)
    clear ho7
    go_wp2_with fail
    (go_at_call 17; (with_reducible refine (c_eqPitchS_eq _ _ ns _ (Rd.of_own HO7.out) HR7.out).mono ?_); rintro e w8 ⟨rfl, hb8⟩; have S := S.trans (hb8.mono S.size); have S3 := S3.trans (hb8.mono S3.size); have S4 := S4.trans (hb8.mono S4.size))
    have HO8 := Lib.hid (own_belA HO7.out hb8)
    have HG8 := Lib.hid (own_belA HG7.out hb8)
    have hz3 := S3.size
    have hz4 := S4.size
    have hw3 : w.heap.size ≤ w3.heap.size := by have := hb3.size; have := hb2.size; omega
    have h34 : w3.heap.size ≤ w4.heap.size := by have := hb4.size; omega
    go_wp2_with fail
    (go_at_call 27; (with_reducible refine (c_markPitchS w3.heap.size _ ns.length _ 1 _ HO8.out hn (by omega) (by omega)).mono ?_); rintro e w9 ⟨rfl, hown9, hk9⟩)
    have hb9 := bel_mark HO8.out hk9 (Nat.le_refl _) (by omega)
    have HG9 := Lib.hid (HG8.out.kept hk9 (own_apart HO8.out HL4.out HG8.out))
    have hz9 := hk9.size
    have S := S.trans (hb9.mono hw3)
    have S3 := S3.trans hb9
    clear hown9 hk9
    have hM9 : ¬ ((1 : Int) + 3 * ns.length < 0) := by omega
    go_wp2_with fail
    (go_at_call 26; (with_reducible refine (c_eqIntSK _ _ X _ (Rd.of_own HG9.out) (HW.out.below (Nat.le_refl _) S3)).mono ?_); rintro e w10 ⟨rfl, hb10⟩; have S := S.trans (hb10.mono S.size); have S3 := S3.trans (hb10.mono S3.size))
    have HG10 := Lib.hid (own_belA HG9.out hb10)
    have hz10 := hb10.size
    go_wp2_with fail
    (go_at_call 28; (with_reducible refine (c_markIntS w4.heap.size _ X.length _ 1 _ HG10.out (by omega) (by omega) (by omega)).mono ?_); rintro e w11 ⟨rfl, hown11, hk11⟩)
    have hb11 := bel_mark HG10.out hk11 (Nat.le_refl _) (by omega)
    have S := S.trans (hb11.mono (by omega))
    have S3 := S3.trans (hb11.mono (by omega))
    have HM11 := Lib.hid (Rd.of_own hown11)
    clear hown11 hk11
    have hXl1 : (X.length : Int) ≤ 12 := by omega
    go_wp2_with fail
    (go_at_call 29; (with_reducible refine (c_heldIntS _ X.length 1 _ HM11.out (by omega) (by omega) (by omega)).mono ?_); rintro e w12 ⟨rfl, rfl⟩)
    go_wp2_with fail
    (go_at_call 15; (with_reducible refine (c_toPitchS _ ns _ (HR.out.below (Nat.le_refl _) S) hn).mono ?_); rintro e w12 ⟨v12, rfl, ho12, hb12⟩; have S := S.trans (hb12.mono S.size); have S3 := S3.trans (hb12.mono S3.size))
    have HM12 := Lib.hid (HM11.out.below (Nat.le_refl _) hb12)
    have HR12 := Lib.hid (Rd.of_own ho12)
    clear ho12
    go_wp2_with fail
    (go_at_call 25; (with_reducible refine (c_KeyClasses _ ns _ HR12.out).mono ?_); rintro e w13 hpost; rw [HXX.out] at hpost; obtain ⟨vh, rfl, hoh, hb13⟩ := hpost; have S := S.trans (hb13.mono S.size); have S3 := S3.trans (hb13.mono S3.size))
    have HM13 := Lib.hid (HM12.out.below (Nat.le_refl _) hb13)
    have HH13 := Lib.hid (Rd.of_own hoh)
    clear hoh
    go_wp2_with fail
    (go_at_call 26; (with_reducible refine (c_eqIntSK _ _ X _ HH13.out (HW.out.below (Nat.le_refl _) S3)).mono ?_); rintro e w14 ⟨rfl, hb14⟩; have S := S.trans (hb14.mono S.size))
    have HM14 := Lib.hid (HM13.out.below (Nat.le_refl _) hb14)
    go_wp2_with fail
    (go_at_call 29; (with_reducible refine (c_heldIntS _ X.length 1 _ HM14.out (by omega) (by omega) (by omega)).mono ?_); rintro e w15 ⟨rfl, rfl⟩)
    go_wp2_with fail
    go_ret
    exact ⟨rfl, S⟩
  · go_enter Try.func7, Try.ntmps7
    go_wp2_with fail
    (go_at_call 13; (with_reducible refine (c_szPitchS_no A _ c 1048576 _ (by omega) (by omega) (by omega) (by omega)).mono ?_); rintro e wA ⟨rfl, rfl⟩)
    go_wp2
    go_ret
    exact ⟨rfl, S⟩
end Go.Proofs.Ytpbmmhdpmpoabaa
