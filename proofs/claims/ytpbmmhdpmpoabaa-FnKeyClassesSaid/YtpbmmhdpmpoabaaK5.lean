/- The walk of FnExactChordOn. Conditions: none. -/
import Derived.Test.YtpbmmhdpmpoabaaK3
import Derived.Test.YtpbmmhdpmpoabaaC0
namespace Go.Proofs.Ytpbmmhdpmpoabaa
open Go.RowKit
set_option linter.unusedSimpArgs false
set_option linter.unusedVariables false
set_option maxHeartbeats 8000000
theorem bel_mark {B base size n : Nat} {e : TypeId} {v : Value} {xs : List Value} {w w' : World} (h : w.ownsRow base e size v n xs) (hk : w.grownBy w' v.ownBlock) (hb : B ≤ base) (hB : B ≤ w.heap.size) : Below B w w' := by
  refine ⟨hk.os, hk.tape, hk.output, hk.size, fun i hi => hk.block i (by omega) ?_⟩
  intro hh
  cases hv : v.ownBlock with
  | none => rw [hv] at hh; cases hh
  | some k =>
    rw [hv] at hh
    cases hh
    have := (h.lt i hv).1
    omega
theorem chordOn_len (f : Int) (m : Bool) (d : Int) (s : Bool) : (chordOn f m d s).length ≤ 4 := by
  unfold chordOn
  split
  · rw [scaleTo_len]; split <;> omega
  · simp
theorem walk_FnExactChordOn (w : World) (f : Int) (hf : I64 f) (m : Bool) (d : Int) (hd : I64 d) (s : Bool) :
    Calls Try.prog 10 #[.int .i64 f, .bool m, .int .i64 d, .bool s] w fun e w' => e = .returned (.bool true) ∧ Below w.heap.size w w' := by
  clear hf hd
  obtain ⟨X, hX⟩ : ∃ X, chordOn f m d s = X := ⟨_, rfl⟩
  have hXl : X.length ≤ 4 := by rw [← hX]; exact chordOn_len f m d s
  have HXX := Lib.hid hX
  clear hX
  have S := Below.refl w.heap.size w
  go_enter Try.func10, Try.ntmps10
  go_wp2_with fail
  (go_at_call 37; (with_reducible refine (c_sChordOn f m d s _).mono ?_); rintro e w1 hpost; rw [HXX.out] at hpost; obtain ⟨v1, rfl, ho1, hb1⟩ := hpost; have S := S.trans (hb1.mono S.size))
  have HW1 := Lib.hid (Rd.of_own ho1)
  clear ho1
  have S1 := Below.refl w1.heap.size w1
  go_wp2_with fail
  (go_at_call 38; (with_reducible refine (c_ChordOn f m d s _).mono ?_); rintro e w2 hpost; rw [HXX.out] at hpost; obtain ⟨v2, rfl, ho2, hb2⟩ := hpost; have S := S.trans (hb2.mono S.size); have S1 := S1.trans (hb2.mono S1.size))
  have HO2 := Lib.hid ho2
  clear ho2
  go_wp2_with fail
  (go_at_call 17; (with_reducible refine (c_eqPitchS_eq _ _ X _ (Rd.of_own HO2.out) (HW1.out.below (Nat.le_refl _) S1)).mono ?_); rintro e w3 ⟨rfl, hb3⟩; have S := S.trans (hb3.mono S.size); have S1 := S1.trans (hb3.mono S1.size))
  have HO3 := Lib.hid (own_belA HO2.out hb3)
  have hz1 := hb1.size
  have hz2 := hb2.size
  have hz3 := hb3.size
  go_wp2_with fail
  (go_at_call 27; (with_reducible refine (c_markPitchS w1.heap.size _ X.length _ 1 _ HO3.out (by omega) (by omega) (by omega)).mono ?_); rintro e w4 ⟨rfl, hown4, hk4⟩)
  have hb4 := bel_mark HO3.out hk4 (Nat.le_refl _) (by omega)
  have S := S.trans (hb4.mono (by omega))
  have S1 := S1.trans hb4
  have HM4 := Lib.hid (Rd.of_own hown4)
  clear hown4 hk4
  have hXl1 : (X.length : Int) ≤ 4 := by omega
  go_wp2_with fail
  (go_at_call 39; (with_reducible refine (c_heldPitchS _ X.length 1 _ HM4.out (by omega) (by omega) (by omega)).mono ?_); rintro e w5 ⟨rfl, rfl⟩)
  go_wp2_with fail
  (go_at_call 38; (with_reducible refine (c_ChordOn f m d s _).mono ?_); rintro e w5 hpost; rw [HXX.out] at hpost; obtain ⟨v5, rfl, ho5, hb5⟩ := hpost; have S := S.trans (hb5.mono S.size); have S1 := S1.trans (hb5.mono S1.size))
  have HM5 := Lib.hid (HM4.out.below (Nat.le_refl _) hb5)
  have HO5 := Lib.hid (Rd.of_own ho5)
  clear ho5
  go_wp2_with fail
  (go_at_call 17; (with_reducible refine (c_eqPitchS_eq _ _ X _ HO5.out (HW1.out.below (Nat.le_refl _) S1)).mono ?_); rintro e w6 ⟨rfl, hb6⟩; have S := S.trans (hb6.mono S.size))
  have HM6 := Lib.hid (HM5.out.below (Nat.le_refl _) hb6)
  go_wp2_with fail
  (go_at_call 39; (with_reducible refine (c_heldPitchS _ X.length 1 _ HM6.out (by omega) (by omega) (by omega)).mono ?_); rintro e w7 ⟨rfl, rfl⟩)
  go_wp2_with fail
  go_ret
  exact ⟨rfl, S⟩
end Go.Proofs.Ytpbmmhdpmpoabaa
