/- The walk of FnExactChordOf. Conditions: none. -/
import Derived.Test.YtpbmmhdpmpoabaaK10
import Derived.Test.YtpbmmhdpmpoabaaK5
namespace Go.Proofs.Ytpbmmhdpmpoabaa
open Go.RowKit
set_option linter.unusedSimpArgs false
set_option linter.unusedVariables false
set_option maxHeartbeats 16000000
theorem chordOpt_len {p : Pit} {kind : Int} : ((chordOf p kind).getD []).length ≤ 4 := by
  cases h : chordOf p kind with
  | none => simp
  | some l => exact chordOf_len h
set_option maxRecDepth 100000 in
theorem walk_FnExactChordOf (w : World) (p : Pit) (hp : p.Good) (kind : Int) (hk : I64 kind) :
    Calls Try.prog 11 #[p.v, .int .i64 kind] w fun e w' => e = .returned (.bool true) ∧ Below w.heap.size w w' := by
  clear hp hk
  obtain ⟨s, a, o⟩ := p
  obtain ⟨R, hR⟩ : ∃ R, chordOf ⟨s, a, o⟩ kind = R := ⟨_, rfl⟩
  obtain ⟨X, hX⟩ : ∃ X, R.getD [] = X := ⟨_, rfl⟩
  obtain ⟨b, hb⟩ : ∃ b, R.isSome = b := ⟨_, rfl⟩
  have hXl : X.length ≤ 4 := by rw [← hX, ← hR]; exact chordOpt_len
  have HI := Lib.hid (show ∀ w e w', ChordPost (chordOf ⟨s, a, o⟩ kind) w e w' → ∃ v, e = .returned (.tuple #[v, .bool b]) ∧ w'.ownsRow w.heap.size 34 3 v X.length (pitCells X) ∧ Below w.heap.size w w' from fun w e w' h => by
    rw [hR] at h
    obtain ⟨v, h1, h2, _, h4⟩ := h
    rw [hX] at h2
    rw [hb] at h1
    exact ⟨v, h1, h2, h4⟩)
  clear hR hX hb
  have hbb : (b != b) = false := by simp
  have S := Below.refl (w.alloc (.cells #[.int .i64 s, .int .i64 a, .int .i64 o] 51)).heap.size (w.alloc (.cells #[.int .i64 s, .int .i64 a, .int .i64 o] 51))
  have HX0 := Lib.hid (heap_alloc_new w (.cells #[.int .i64 s, .int .i64 a, .int .i64 o] 51))
  go_enter Try.func11, Try.ntmps11
  obtain ⟨_, _⟩ := blk_facts (below_heap S HX0.out)
  go_wp2_with fail
  (go_at_call 41; (with_reducible refine (c_toPitch ⟨s, a, o⟩ _).mono ?_); rintro e wa ⟨rfl, hbwa⟩; have S := S.trans (hbwa.mono S.size))
  go_wp2_with fail
  (go_at_call 40; (with_reducible refine (c_sChordOf ⟨s, a, o⟩ kind _).mono ?_); rintro e w1 hpost; obtain ⟨v1, rfl, ho1, hb1⟩ := HI.out _ _ _ hpost; have S := S.trans (hb1.mono S.size))
  have HW1 := Lib.hid (Rd.of_own ho1)
  clear ho1 hpost
  have S1 := Below.refl w1.heap.size w1
  obtain ⟨_, _⟩ := blk_facts (below_heap S HX0.out)
  go_wp2_with fail
  (go_at_call 41; (with_reducible refine (c_toPitch ⟨s, a, o⟩ _).mono ?_); rintro e wb ⟨rfl, hbwb⟩; have S := S.trans (hbwb.mono S.size))
  have S1 := S1.trans (hbwb.mono S1.size)
  have hzb := S1.size
  go_wp2_with fail
  (go_at_call 42; (with_reducible refine (c_ChordOf ⟨s, a, o⟩ kind _).mono ?_); rintro e w2 hpost; obtain ⟨v2, rfl, ho2, hb2⟩ := HI.out _ _ _ hpost; have S := S.trans (hb2.mono S.size); have S1 := S1.trans (hb2.mono S1.size))
  have HO2 := Lib.hid ho2
  clear ho2 hpost
  go_wp2_with fail
  (go_at_call 17; (with_reducible refine (c_eqPitchS_eq _ _ X _ (Rd.of_own HO2.out) (HW1.out.below (Nat.le_refl _) S1)).mono ?_); rintro e w3 ⟨rfl, hb3⟩; have S := S.trans (hb3.mono S.size); have S1 := S1.trans (hb3.mono S1.size))
  have HO3 := Lib.hid (own_belA HO2.out hb3)
  have hz1 := hb1.size
  have hz2 := hb2.size
  have hz3 := hb3.size
  have hzwa := hbwa.size
  have hXl1 : (X.length : Int) ≤ 4 := by omega
  go_wp2_with fail
  (go_at_call 27; (with_reducible refine (c_markPitchS wb.heap.size _ X.length _ 1 _ HO3.out (by omega) (by omega) (by omega)).mono ?_); rintro e w4 ⟨rfl, hown4, hk4⟩)
  have hb4 := bel_mark HO3.out hk4 (Nat.le_refl _) (by omega)
  have hsz0 := S.size
  have S := S.trans (hb4.mono (by omega))
  have S1 := S1.trans (hb4.mono (by omega))
  have HM4 := Lib.hid (Rd.of_own hown4)
  clear hown4 hk4
  go_wp2_with fail
  (go_at_call 39; (with_reducible refine (c_heldPitchS _ X.length 1 _ HM4.out (by omega) (by omega) (by omega)).mono ?_); rintro e w5 ⟨rfl, rfl⟩)
  obtain ⟨_, _⟩ := blk_facts (below_heap S HX0.out)
  go_wp2_with fail
  (go_at_call 41; (with_reducible refine (c_toPitch ⟨s, a, o⟩ _).mono ?_); rintro e wc ⟨rfl, hbwc⟩; have S := S.trans (hbwc.mono S.size))
  have S1 := S1.trans (hbwc.mono S1.size)
  have HM4 := Lib.hid (HM4.out.below (Nat.le_refl _) hbwc)
  go_wp2_with fail
  (go_at_call 42; (with_reducible refine (c_ChordOf ⟨s, a, o⟩ kind _).mono ?_); rintro e w5 hpost; obtain ⟨v5, rfl, ho5, hb5⟩ := HI.out _ _ _ hpost; have S := S.trans (hb5.mono S.size); have S1 := S1.trans (hb5.mono S1.size))
  have HM5 := Lib.hid (HM4.out.below (Nat.le_refl _) hb5)
  have HO5 := Lib.hid (Rd.of_own ho5)
  clear ho5 hpost
  go_wp2_with fail
  (go_at_call 17; (with_reducible refine (c_eqPitchS_eq _ _ X _ HO5.out (HW1.out.below (Nat.le_refl _) S1)).mono ?_); rintro e w6 ⟨rfl, hb6⟩; have S := S.trans (hb6.mono S.size))
  have HM6 := Lib.hid (HM5.out.below (Nat.le_refl _) hb6)
  go_wp2_with fail
  (go_at_call 39; (with_reducible refine (c_heldPitchS _ X.length 1 _ HM6.out (by omega) (by omega) (by omega)).mono ?_); rintro e w7 ⟨rfl, rfl⟩)
  go_wp2_with fail
  go_ret
  exact ⟨rfl, (bel1 w _).trans (S.mono (by simp))⟩
end Go.Proofs.Ytpbmmhdpmpoabaa
