/- The walk of FnExactMoveFault. Conditions: none beyond the law's own. -/
import Derived.Test.YtpbmmhdpmpoabaaC7
namespace Go.Proofs.Ytpbmmhdpmpoabaa
open Go.RowKit
set_option linter.unusedSimpArgs false
set_option linter.unusedVariables false
set_option maxHeartbeats 16000000
theorem walk_FnExactMoveFault (w : World) (v : Value) (ns : List Pit) (hr : Rd w v 3 ns.length (pitCells ns)) (hgd : ∀ a ∈ ns, a.Good) (u : Value) (ms : List Pit) (hr2 : Rd w u 3 ms.length (pitCells ms)) (hgd2 : ∀ a ∈ ms, a.Good) :
    Calls Try.prog 5 #[v, u] w fun e w' => e = .returned (.bool true) ∧ Below w.heap.size w w' := by
  clear hgd hgd2
  have HR := Lib.hid hr
  have HQ := Lib.hid hr2
  obtain ⟨_, A, c, rfl, hnc, hcm, hA⟩ := hr
  obtain ⟨_, A2, c2, rfl, hnc2, hcm2, hA2⟩ := hr2
  unfold maxLen at hcm hcm2
  clear hA hA2
  have S := Below.refl w.heap.size w
  by_cases hlen : (ns.length : Int) ≤ 1048576
  · have hn : ns.length ≤ 1048576 := by omega
    have hsz0 : ¬ ((1048576 : Int) - ns.length < 0) := by omega
    by_cases hlen2 : (ms.length : Int) ≤ 1048576 - ns.length
    · have hn2 : ms.length ≤ 1048576 := by omega
      have hsz2 : ¬ ((1048576 : Int) - ns.length - ms.length < 0) := by omega
      go_enter Try.func5, Try.ntmps5
      go_wp2_with fail
      (go_at_call 13; (with_reducible refine (c_szPitchS A _ c 1048576 _ (by omega) (by omega) (by omega) hlen).mono ?_); rintro e wA ⟨rfl, rfl⟩)
      go_wp2_with fail
      (go_at_call 13; (with_reducible refine (c_szPitchS A2 _ c2 (1048576 - ns.length) _ (by omega) (by omega) (by omega) hlen2).mono ?_); rintro e wA ⟨rfl, rfl⟩)
      go_wp2_with fail
      (go_at_call 15; (with_reducible refine (c_toPitchS _ ns _ (HR.out.below (Nat.le_refl _) S) hn).mono ?_); rintro e w1 ⟨v1, rfl, how1, hbw1⟩; have S := S.trans (hbw1.mono S.size))
      have HRw1 := Lib.hid (Rd.of_own how1)
      clear how1
      go_wp2_with fail
      (go_at_call 15; (with_reducible refine (c_toPitchS _ ms _ (HQ.out.below (Nat.le_refl _) S) hn2).mono ?_); rintro e w2 ⟨v2, rfl, how2, hbw2⟩; have S := S.trans (hbw2.mono S.size))
      have HRw2 := Lib.hid (Rd.of_own how2)
      clear how2
      have HR1 := Lib.hid (HRw1.out.below (Nat.le_refl _) hbw2)
      go_wp2_with fail
      (go_at_call 21; (with_reducible refine (c_sMoveFault _ ns _ ms _ HR1.out HRw2.out).mono ?_); rintro e w3 ⟨rfl, hb3⟩; have S := S.trans (hb3.mono S.size))
      go_wp2_with fail
      (go_at_call 15; (with_reducible refine (c_toPitchS _ ns _ (HR.out.below (Nat.le_refl _) S) hn).mono ?_); rintro e w4 ⟨v4, rfl, how4, hbw4⟩; have S := S.trans (hbw4.mono S.size))
      have HRw4 := Lib.hid (Rd.of_own how4)
      clear how4
      go_wp2_with fail
      (go_at_call 15; (with_reducible refine (c_toPitchS _ ms _ (HQ.out.below (Nat.le_refl _) S) hn2).mono ?_); rintro e w5 ⟨v5, rfl, how5, hbw5⟩; have S := S.trans (hbw5.mono S.size))
      have HRw5 := Lib.hid (Rd.of_own how5)
      clear how5
      have HR4 := Lib.hid (HRw4.out.below (Nat.le_refl _) hbw5)
      go_wp2_with fail
      (go_at_call 22; (with_reducible refine (c_MoveFault _ ns _ ms _ HR4.out HRw5.out).mono ?_); rintro e w6 ⟨rfl, hb6⟩; have S := S.trans (hb6.mono S.size))
      have HR6 := Lib.hid (HR4.out.below (Nat.le_refl _) hb6)
      have HQ6 := Lib.hid (HRw5.out.below (Nat.le_refl _) hb6)
      go_wp2_with fail
      (go_at_call 15; (with_reducible refine (c_toPitchS _ ns _ (HR.out.below (Nat.le_refl _) S) hn).mono ?_); rintro e w7 ⟨v7, rfl, how7, hbw7⟩; have S := S.trans (hbw7.mono S.size))
      have HRw7 := Lib.hid (Rd.of_own how7)
      clear how7
      have HR7 := Lib.hid (HR6.out.below (Nat.le_refl _) hbw7)
      have HQ7 := Lib.hid (HQ6.out.below (Nat.le_refl _) hbw7)
      go_wp2_with fail
      (go_at_call 17; (with_reducible refine (c_eqPitchS_eq _ _ ns _ HR7.out HRw7.out).mono ?_); rintro e w8 ⟨rfl, hb8⟩; have S := S.trans (hb8.mono S.size))
      have HQ8 := Lib.hid (HQ7.out.below (Nat.le_refl _) hb8)
      go_wp2_with fail
      (go_at_call 15; (with_reducible refine (c_toPitchS _ ms _ (HQ.out.below (Nat.le_refl _) S) hn2).mono ?_); rintro e w9 ⟨v9, rfl, how9, hbw9⟩; have S := S.trans (hbw9.mono S.size))
      have HRw9 := Lib.hid (Rd.of_own how9)
      clear how9
      have HQ9 := Lib.hid (HQ8.out.below (Nat.le_refl _) hbw9)
      go_wp2_with fail
      (go_at_call 17; (with_reducible refine (c_eqPitchS_eq _ _ ms _ HQ9.out HRw9.out).mono ?_); rintro e w10 ⟨rfl, hb10⟩; have S := S.trans (hb10.mono S.size))
      go_wp2
      go_ret
      exact ⟨rfl, S⟩
    · go_enter Try.func5, Try.ntmps5
      go_wp2_with fail
      (go_at_call 13; (with_reducible refine (c_szPitchS A _ c 1048576 _ (by omega) (by omega) (by omega) hlen).mono ?_); rintro e wA ⟨rfl, rfl⟩)
      go_wp2_with fail
      (go_at_call 13; (with_reducible refine (c_szPitchS_no A2 _ c2 (1048576 - ns.length) _ (by omega) (by omega) (by omega) (by omega)).mono ?_); rintro e wA ⟨rfl, rfl⟩)
      go_wp2
      go_ret
      exact ⟨rfl, S⟩
  · go_enter Try.func5, Try.ntmps5
    go_wp2_with fail
    (go_at_call 13; (with_reducible refine (c_szPitchS_no A _ c 1048576 _ (by omega) (by omega) (by omega) (by omega)).mono ?_); rintro e wA ⟨rfl, rfl⟩)
    go_wp2
    go_ret
    exact ⟨rfl, S⟩
end Go.Proofs.Ytpbmmhdpmpoabaa
