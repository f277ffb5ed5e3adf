/- The walk of FnExactNameChord. Conditions: none beyond the law's own. -/
import Derived.Test.YtiameebjcmnmeaaTB
namespace Go.Proofs.Ytiameebjcmnmeaa
open Go.RowKit
set_option linter.unusedSimpArgs false
set_option linter.unusedVariables false
set_option maxHeartbeats 16000000
theorem c_eqPitch_eq (a b c : Int) (w : World) :
    Calls Try.prog 27 #[.agg #[.int .i64 a, .int .i64 b, .int .i64 c], .agg #[.int .i64 a, .int .i64 b, .int .i64 c]] w fun e w' => e = .returned (.bool true) ∧ Below w.heap.size w w' := by
  have h := c_eqPitch ⟨a, b, c⟩ ⟨a, b, c⟩ w
  rwa [show pitEq ⟨a, b, c⟩ ⟨a, b, c⟩ = true by simp [pitEq]] at h
set_option maxRecDepth 100000 in
theorem walk_FnExactNameChord (w : World) (v : Value) (ns : List Pit) (hr : Rd w v 3 ns.length (pitCells ns)) (hgd : ∀ a ∈ ns, a.Good) :
    Calls Try.prog 6 #[v] w fun e w' => e = .returned (.bool true) ∧ Below w.heap.size w w' := by
  clear hgd
  have HR := Lib.hid hr
  obtain ⟨_, A, c, rfl, hnc, hcm, hA⟩ := hr
  unfold maxLen at hcm
  clear hA
  have S := Below.refl w.heap.size w
  obtain ⟨pa, pb, pc, px, py, pt, hform⟩ := nameV_form ns
  have HI := Lib.hid (fun v w (h : Rd w v 3 ns.length (pitCells ns)) => show Calls Try.prog 17 #[v] w fun e w' => e = .returned (.tuple #[.agg #[.int .i64 pa, .int .i64 pb, .int .i64 pc], .int .i64 px, .int .i64 py, .bool pt]) ∧ Below w.heap.size w w' by have := c_NameChord v ns w h; rwa [hform] at this)
  have HS := Lib.hid (fun v w (h : Rd w v 3 ns.length (pitCells ns)) => show Calls Try.prog 25 #[v] w fun e w' => e = .returned (.tuple #[.agg #[.int .i64 pa, .int .i64 pb, .int .i64 pc], .int .i64 px, .int .i64 py, .bool pt]) ∧ Below w.heap.size w w' by have := c_sNameChord v ns w h; rwa [hform] at this)
  clear hform
  by_cases hlen : (ns.length : Int) ≤ 1048576
  · have hn : ns.length ≤ 1048576 := by omega
    have hsz0 : ¬ ((1048576 : Int) - ns.length < 0) := by omega
    go_enter Try.func6, Try.ntmps6
    go_wp2_with fail
    (go_at_call 24; (with_reducible refine (c_szPitchS A _ c 1048576 _ (by omega) (by omega) (by omega) hlen).mono ?_); rintro e wA ⟨rfl, rfl⟩)
    go_wp2_with fail
    (go_at_call 26; (with_reducible refine (c_toPitchS _ ns _ (HR.out.below (Nat.le_refl _) S) hn).mono ?_); rintro e w1 ⟨v1, rfl, how1, hbw1⟩; have S := S.trans (hbw1.mono S.size))
    have HRw1 := Lib.hid (Rd.of_own how1)
    clear how1
    go_wp2_with fail
    (go_at_call 25; (with_reducible refine (HS.out _ _ HRw1.out).mono ?_); rintro e w3 ⟨rfl, hb3⟩; have S := S.trans (hb3.mono S.size))
    have HX := heap_alloc_new w3 (.cells #[.int .i64 pa, .int .i64 pb, .int .i64 pc] 32)
    have HXX := Lib.hid HX
    have S := S.alloc S.size (.cells #[.int .i64 pa, .int .i64 pb, .int .i64 pc] 32)
    clear HX
    go_wp2_with fail
    (go_at_call 26; (with_reducible refine (c_toPitchS _ ns _ (HR.out.below (Nat.le_refl _) S) hn).mono ?_); rintro e w4 ⟨v4, rfl, how4, hbw4⟩; have S := S.trans (hbw4.mono S.size))
    have HRw4 := Lib.hid (Rd.of_own how4)
    clear how4
    have HX4 := Lib.hid (below_heap hbw4 HXX.out)
    go_wp2_with fail
    (go_at_call 17; (with_reducible refine (HI.out _ _ HRw4.out).mono ?_); rintro e w6 ⟨rfl, hb6⟩; have S := S.trans (hb6.mono S.size))
    have HX6 := below_heap (bel1 w6 (.cells #[.int .i64 pa, .int .i64 pb, .int .i64 pc] 32)) (below_heap hb6 HX4.out)
    have HR6 := Lib.hid ((HRw4.out.below (Nat.le_refl _) hb6).alloc (.cells #[.int .i64 pa, .int .i64 pb, .int .i64 pc] 32))
    have S := S.alloc S.size (.cells #[.int .i64 pa, .int .i64 pb, .int .i64 pc] 32)
    obtain ⟨_, _⟩ := blk_facts HX6
    go_wp2_with fail
    (go_at_call 27; (with_reducible refine (c_eqPitch_eq pa pb pc _).mono ?_); rintro e w7 ⟨rfl, hb7⟩; have S := S.trans (hb7.mono S.size))
    have HR7 := Lib.hid (HR6.out.below (Nat.le_refl _) hb7)
    clear HX6 HXX
    go_wp2_with fail
    (go_at_call 26; (with_reducible refine (c_toPitchS _ ns _ (HR.out.below (Nat.le_refl _) S) hn).mono ?_); rintro e w8 ⟨v8, rfl, how8, hbw8⟩; have S := S.trans (hbw8.mono S.size))
    have HRw8 := Lib.hid (Rd.of_own how8)
    clear how8
    have HR8 := Lib.hid (HR7.out.below (Nat.le_refl _) hbw8)
    go_wp2_with fail
    (go_at_call 28; (with_reducible refine (c_eqPitchS_eq _ _ ns _ HR8.out HRw8.out).mono ?_); rintro e w9 ⟨rfl, hb9⟩; have S := S.trans (hb9.mono S.size))
    go_wp2
    go_ret
    exact ⟨rfl, S⟩
  · go_enter Try.func6, Try.ntmps6
    go_wp2_with fail
    (go_at_call 24; (with_reducible refine (c_szPitchS_no A _ c 1048576 _ (by omega) (by omega) (by omega) (by omega)).mono ?_); rintro e wA ⟨rfl, rfl⟩)
    go_wp2
    go_ret
    exact ⟨rfl, S⟩
end Go.Proofs.Ytiameebjcmnmeaa
