/- The walk of FnExactDegreeOfChord. Conditions: none beyond the law's own. -/
import Derived.Test.YtiameebjcmnmeaaT5
namespace Go.Proofs.Ytiameebjcmnmeaa
open Go.RowKit
set_option linter.unusedSimpArgs false
set_option linter.unusedVariables false
set_option maxHeartbeats 16000000
theorem walk_FnExactDegreeOfChord (w : World) (f : Int) (hf : I64 f) (m : Bool) (v : Value) (ns : List Pit) (hr : Rd w v 3 ns.length (pitCells ns)) (hgd : ∀ a ∈ ns, a.Good) :
    Calls Try.prog 8 #[.int .i64 f, .bool m, v] w fun e w' => e = .returned (.bool true) ∧ Below w.heap.size w w' := by
  clear hgd hf
  have HR := Lib.hid hr
  obtain ⟨_, A, c, rfl, hnc, hcm, hA⟩ := hr
  unfold maxLen at hcm
  clear hA
  have S := Below.refl w.heap.size w
  by_cases hlen : (ns.length : Int) ≤ 1048576
  · have hn : ns.length ≤ 1048576 := by omega
    have hsz0 : ¬ ((1048576 : Int) - ns.length < 0) := by omega
    go_enter Try.func8, Try.ntmps8
    go_wp2_with fail
    (go_at_call 24; (with_reducible refine (c_szPitchS A _ c 1048576 _ (by omega) (by omega) (by omega) hlen).mono ?_); rintro e wA ⟨rfl, rfl⟩)
    go_wp2_with fail
    (go_at_call 26; (with_reducible refine (c_toPitchS _ ns _ (HR.out.below (Nat.le_refl _) S) hn).mono ?_); rintro e w1 ⟨v1, rfl, how1, hbw1⟩; have S := S.trans (hbw1.mono S.size))
    have HRw1 := Lib.hid (Rd.of_own how1)
    clear how1
    go_wp2_with fail
    (go_at_call 32; (with_reducible refine (c_sDegreeOfChord f m _ ns _ HRw1.out).mono ?_); rintro e w3 ⟨rfl, hb3⟩; have S := S.trans (hb3.mono S.size))
    go_wp2_with fail
    (go_at_call 26; (with_reducible refine (c_toPitchS _ ns _ (HR.out.below (Nat.le_refl _) S) hn).mono ?_); rintro e w4 ⟨v4, rfl, how4, hbw4⟩; have S := S.trans (hbw4.mono S.size))
    have HRw4 := Lib.hid (Rd.of_own how4)
    clear how4
    go_wp2_with fail
    (go_at_call 18; (with_reducible refine (c_DegreeOfChord f m _ ns _ HRw4.out).mono ?_); rintro e w6 ⟨rfl, hb6⟩; have S := S.trans (hb6.mono S.size))
    have HR6 := Lib.hid (HRw4.out.below (Nat.le_refl _) hb6)
    go_wp2_with fail
    (go_at_call 26; (with_reducible refine (c_toPitchS _ ns _ (HR.out.below (Nat.le_refl _) S) hn).mono ?_); rintro e w7 ⟨v7, rfl, how7, hbw7⟩; have S := S.trans (hbw7.mono S.size))
    have HRw7 := Lib.hid (Rd.of_own how7)
    clear how7
    have HR7 := Lib.hid (HR6.out.below (Nat.le_refl _) hbw7)
    go_wp2_with fail
    (go_at_call 28; (with_reducible refine (c_eqPitchS_eq _ _ ns _ HR7.out HRw7.out).mono ?_); rintro e w8 ⟨rfl, hb8⟩; have S := S.trans (hb8.mono S.size))
    go_wp2
    go_ret
    exact ⟨rfl, S⟩
  · go_enter Try.func8, Try.ntmps8
    go_wp2_with fail
    (go_at_call 24; (with_reducible refine (c_szPitchS_no A _ c 1048576 _ (by omega) (by omega) (by omega) (by omega)).mono ?_); rintro e wA ⟨rfl, rfl⟩)
    go_wp2
    go_ret
    exact ⟨rfl, S⟩
end Go.Proofs.Ytiameebjcmnmeaa
