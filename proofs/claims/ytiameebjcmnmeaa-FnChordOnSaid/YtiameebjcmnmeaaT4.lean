/- DegreeOfChord of the program. Conditions: none. -/
import Derived.Test.YtiameebjcmnmeaaT3
namespace Go.Proofs.Ytiameebjcmnmeaa
open Go.RowKit
set_option linter.unusedSimpArgs false
set_option linter.unusedVariables false
set_option maxHeartbeats 16000000
set_option maxRecDepth 100000 in
theorem c_DegreeOfChord (f : Int) (m : Bool) (v : Value) (ns : List Pit) (w : World) (h : Rd w v 3 ns.length (pitCells ns)) :
    Calls Try.prog 18 #[.int .i64 f, .bool m, v] w fun e w' => e = .returned (.int .i64 (degF f m ns)) ∧ Below w.heap.size w w' := by
  have H := Lib.hid h
  obtain ⟨_, A, c, rfl, hnc, hcm, hA⟩ := h
  unfold maxLen at hcm
  clear hA
  cases hf : inB f (-7) 7
  · have HF := Lib.hid (degF_no (m := m) (l := ns) (f := f) (by rw [hf]; simp))
    go_enter Try.func18, Try.ntmps18
    go_wp2_with (go_at_call 37; refine (c_isKey _ _).mono ?_; rintro e w' ⟨rfl, rfl⟩; rw [hf])
    go_ret
    exact ⟨ret_int HF.out.symm, Below.refl _ _⟩
  · cases hl : arePits ns 1 12
    · have HF := Lib.hid (degF_no (m := m) (l := ns) (f := f) (by rw [hl]; simp))
      go_enter Try.func18, Try.ntmps18
      go_wp2_with (first | (go_at_call 37; refine (c_isKey _ _).mono ?_; rintro e w' ⟨rfl, rfl⟩; rw [hf]) | (go_at_call 47; (with_reducible refine (c_arePitches _ ns 1 12 _ H.out).mono ?_); rintro e wq ⟨rfl, hbq⟩; rw [hl]))
      go_ret
      exact ⟨ret_int HF.out.symm, hbq⟩
    · have HF := Lib.hid (degF_yes (m := m) hf hl)
      have HWF := Lib.hid (valid_wf (arePits_mem hl))
      have hn : ns.length ≤ 1048576 := by have := (arePits_iff.1 hl).1; omega
      go_enter Try.func18, Try.ntmps18
      go_wp2_with (first | (go_at_call 37; refine (c_isKey _ _).mono ?_; rintro e w' ⟨rfl, rfl⟩; rw [hf]) | (go_at_call 47; (with_reducible refine (c_arePitches _ ns 1 12 _ H.out).mono ?_); rintro e wq ⟨rfl, hbq⟩; rw [hl]))
      go_loopw [16] (fun i wr => ∃ d : Nat, d ≤ 7 ∧ i = .int .i64 d ∧ (∀ d', d' < d → degAt f m ns d' = false) ∧ Below w.heap.size w wr) (fun i _ => 7 - (intOf i).toNat)
      case atStart => exact ⟨0, by omega, rfl, fun d' hd => absurd hd (by omega), hbq⟩
      case round =>
        obtain ⟨d, hd, rfl, hno, hbl⟩ := hrel
        have HNO := Lib.hid hno
        have hz := hbl.size
        have HLr := Lib.hid (H.out.below (Nat.le_refl _) hbl)
        clear hno
        by_cases hlt : d < 7
        · have hd7 : (d : Int) < 7 := by omega
          cases h0 : sameT ns (chordOn f m (d : Int) false)
          · cases h1 : sameT ns (chordOn f m (d : Int) true)
            · have HN := Lib.hid (show ∀ d', d' < d + 1 → degAt f m ns d' = false from fun d' hd' => by
                rcases Nat.lt_succ_iff_lt_or_eq.1 hd' with h | rfl
                · exact HNO.out d' h
                · unfold degAt; rw [h0, h1]; rfl)
              go_wp2_with fail
              (go_at_call 11; (with_reducible refine (c_ChordOn f m (d : Int) false _).mono ?_); rintro e w1 ⟨v1, rfl, ho1, hb1⟩)
              have HR1 := Lib.hid (Rd.of_own ho1)
              have HL1 := Lib.hid (HLr.out.below (Nat.le_refl _) hb1)
              have hbl := hbl.trans (hb1.mono hz)
              have hz := hbl.size
              clear ho1
              go_wp2_with fail
              (go_at_call 48; (with_reducible refine (c_sameTones _ _ ns (chordOn f m (d : Int) false) _ HL1.out HR1.out hn (by have := chordOn_len6 f m (d : Int) false; omega) HWF.out (chordOn_wf f m (d : Int) false)).mono ?_); rintro e w2 ⟨rfl, hb2⟩)
              have HL2 := Lib.hid (HL1.out.below (Nat.le_refl _) hb2)
              have hbl := hbl.trans (hb2.mono hz)
              have hz := hbl.size
              rw [h0]
              go_wp2_with fail
              (go_at_call 11; (with_reducible refine (c_ChordOn f m (d : Int) true _).mono ?_); rintro e w3 ⟨v3, rfl, ho3, hb3⟩)
              have HR3 := Lib.hid (Rd.of_own ho3)
              have HL3 := Lib.hid (HL2.out.below (Nat.le_refl _) hb3)
              have hbl := hbl.trans (hb3.mono hz)
              have hz := hbl.size
              clear ho3
              go_wp2_with fail
              (go_at_call 48; (with_reducible refine (c_sameTones _ _ ns (chordOn f m (d : Int) true) _ HL3.out HR3.out hn (by have := chordOn_len6 f m (d : Int) true; omega) HWF.out (chordOn_wf f m (d : Int) true)).mono ?_); rintro e w4 ⟨rfl, hb4⟩)
              have HL4 := Lib.hid (HL3.out.below (Nat.le_refl _) hb4)
              have hbl := hbl.trans (hb4.mono hz)
              rw [h1]
              go_wp2_with fail
              go_roundw
              case rel => exact ⟨d + 1, by omega, by go_num, HN.out, hbl⟩
              case measure => simp [intOf]; omega
            · have HR := Lib.hid (first7_hit hlt HNO.out (show degAt f m ns d = true by unfold degAt; rw [h0, h1]; rfl))
              go_wp2_with fail
              (go_at_call 11; (with_reducible refine (c_ChordOn f m (d : Int) false _).mono ?_); rintro e w1 ⟨v1, rfl, ho1, hb1⟩)
              have HR1 := Lib.hid (Rd.of_own ho1)
              have HL1 := Lib.hid (HLr.out.below (Nat.le_refl _) hb1)
              have hbl := hbl.trans (hb1.mono hz)
              have hz := hbl.size
              clear ho1
              go_wp2_with fail
              (go_at_call 48; (with_reducible refine (c_sameTones _ _ ns (chordOn f m (d : Int) false) _ HL1.out HR1.out hn (by have := chordOn_len6 f m (d : Int) false; omega) HWF.out (chordOn_wf f m (d : Int) false)).mono ?_); rintro e w2 ⟨rfl, hb2⟩)
              have HL2 := Lib.hid (HL1.out.below (Nat.le_refl _) hb2)
              have hbl := hbl.trans (hb2.mono hz)
              have hz := hbl.size
              rw [h0]
              go_wp2_with fail
              (go_at_call 11; (with_reducible refine (c_ChordOn f m (d : Int) true _).mono ?_); rintro e w3 ⟨v3, rfl, ho3, hb3⟩)
              have HR3 := Lib.hid (Rd.of_own ho3)
              have HL3 := Lib.hid (HL2.out.below (Nat.le_refl _) hb3)
              have hbl := hbl.trans (hb3.mono hz)
              have hz := hbl.size
              clear ho3
              go_wp2_with fail
              (go_at_call 48; (with_reducible refine (c_sameTones _ _ ns (chordOn f m (d : Int) true) _ HL3.out HR3.out hn (by have := chordOn_len6 f m (d : Int) true; omega) HWF.out (chordOn_wf f m (d : Int) true)).mono ?_); rintro e w4 ⟨rfl, hb4⟩)
              have HL4 := Lib.hid (HL3.out.below (Nat.le_refl _) hb4)
              have hbl := hbl.trans (hb4.mono hz)
              rw [h1]
              go_wp2_with fail
              go_ret
              exact ⟨ret_int (by rw [HF.out, HR.out]), hbl⟩
          · have HR := Lib.hid (first7_hit hlt HNO.out (show degAt f m ns d = true by unfold degAt; rw [h0]; rfl))
            go_wp2_with fail
            (go_at_call 11; (with_reducible refine (c_ChordOn f m (d : Int) false _).mono ?_); rintro e w1 ⟨v1, rfl, ho1, hb1⟩)
            have HR1 := Lib.hid (Rd.of_own ho1)
            have HL1 := Lib.hid (HLr.out.below (Nat.le_refl _) hb1)
            have hbl := hbl.trans (hb1.mono hz)
            have hz := hbl.size
            clear ho1
            go_wp2_with fail
            (go_at_call 48; (with_reducible refine (c_sameTones _ _ ns (chordOn f m (d : Int) false) _ HL1.out HR1.out hn (by have := chordOn_len6 f m (d : Int) false; omega) HWF.out (chordOn_wf f m (d : Int) false)).mono ?_); rintro e w2 ⟨rfl, hb2⟩)
            have HL2 := Lib.hid (HL1.out.below (Nat.le_refl _) hb2)
            have hbl := hbl.trans (hb2.mono hz)
            have hz := hbl.size
            rw [h0]
            go_wp2_with fail
            go_ret
            exact ⟨ret_int (by rw [HF.out, HR.out]), hbl⟩
        · obtain rfl : d = 7 := by omega
          have HR := Lib.hid (first7_none HNO.out)
          go_wp2
          go_ret
          exact ⟨ret_int (by rw [HF.out, HR.out]), hbl⟩
end Go.Proofs.Ytiameebjcmnmeaa
