/- Scales and chords of keys: the reference. Conditions: none. -/
import Derived.Test.YtiameebjcmnmeaaK2
namespace Go.Proofs.Ytiameebjcmnmeaa
open Go.RowKit
set_option linter.unusedSimpArgs false
set_option linter.unusedVariables false
set_option maxHeartbeats 8000000
theorem own_new0 {w : World} : (w.alloc (.cells #[] 32)).ownsRow w.heap.size 32 3 (.slice (some ⟨w.heap.size, 0, none⟩) 0 0) 0 (pitCells []) := own_new w 32 3
set_option maxRecDepth 100000 in
theorem c_sChordOn (f : Int) (m : Bool) (d : Int) (s : Bool) (w : World) :
    Calls Try.prog 13 #[.int .i64 f, .bool m, .int .i64 d, .bool s] w (PitsOf (chordOn f m d s) w) := by
  cases hf : inB f (-7) 7
  · have HV := Lib.hid (show chordOn f m d s = [] by unfold chordOn; rw [hf]; simp)
    go_enter Try.func13, Try.ntmps13
    go_wp2_with (go_at_call 41; refine (c_l1In _ _ _ _).mono ?_; rintro e w' ⟨rfl, rfl⟩; rw [hf])
    go_ret
    exact ⟨_, rfl, by rw [HV.out]; exact own_new0, bel1 _ _⟩
  · cases hd : inB d 0 6
    · have HV := Lib.hid (show chordOn f m d s = [] by unfold chordOn; rw [hd]; simp)
      go_enter Try.func13, Try.ntmps13
      go_wp2_with (go_at_call 41; refine (c_l1In _ _ _ _).mono ?_; rintro e w' ⟨rfl, rfl⟩; first | rw [hf] | rw [hd])
      go_ret
      exact ⟨_, rfl, by rw [HV.out]; exact own_new0, bel1 _ _⟩
    · obtain ⟨hf1, hf2⟩ := inB_iff.1 hf
      obtain ⟨hd1, hd2⟩ := inB_iff.1 hd
      have HO0 := Lib.hid (own_new w 32 3)
      cases s
      case false =>
        have HV := Lib.hid (show chordOn f m d false = scaleTo f m d 2 3 by unfold chordOn; rw [hf, hd]; rfl)
        go_enter Try.func13, Try.ntmps13
        go_wp2_with (go_at_call 41; refine (c_l1In _ _ _ _).mono ?_; rintro e w' ⟨rfl, rfl⟩; first | rw [hf] | rw [hd])
        go_loopw [9, 11] (fun o v wr => ∃ (k g cap : Nat), k ≤ 3 ∧ v = .int .i64 (2 * (k : Int)) ∧ o = .slice (some ⟨g, 0, none⟩) k cap ∧ wr.ownsRow w.heap.size 32 3 (.slice (some ⟨g, 0, none⟩) k cap) k (pitCells (scaleTo f m d 2 k)) ∧ Below w.heap.size w wr) (fun _ v _ => 9 - (intOf v).toNat)
        case atStart => exact ⟨0, _, _, by omega, rfl, rfl, HO0.out, bel1 _ _⟩
        case round =>
          obtain ⟨k, g, cap, hk, rfl, rfl, hown, hbl⟩ := hrel
          have HOW := Lib.hid hown
          have hz := hbl.size
          clear hown
          by_cases hlt : k < 3
          · have hle : 2 * (k : Int) ≤ 4 := by omega
            obtain ⟨t1, t2⟩ := tonicK_bd f m
            obtain ⟨tn, htn⟩ : ∃ t, tonicK f m = t := ⟨_, rfl⟩
            rw [htn] at t1 t2
            have HTN := Lib.hid (fun w => show Calls Try.prog 42 #[.int .i64 f, .bool m] w fun e w' => e = .returned (.int .i64 tn) ∧ w = w' by have := c_l3Tonic f m w hf; rw [htn] at this; exact this)
            obtain ⟨ps, hps⟩ : ∃ p, (28 + tn + d + 2 * (k : Int)) % 7 = p := ⟨_, rfl⟩
            obtain ⟨po, hpo⟩ : ∃ p, (28 + tn + d + 2 * (k : Int)) / 7 = p := ⟨_, rfl⟩
            obtain ⟨pa, hpa⟩ : ∃ p, alterK f ps = p := ⟨_, rfl⟩
            have HKP := Lib.hid (show keyPit f (28 + tonicK f m + d + 2 * (k : Int)) = ⟨ps, pa, po⟩ by unfold keyPit; rw [htn, hps, hpo, hpa])
            have hps0 : 0 ≤ ps := by omega
            have hps6 : ps ≤ 6 := by omega
            have hpl0 : 0 ≤ 28 + tn + d + 2 * (k : Int) := by omega
            have HCA := Lib.hid (fun w => show Calls Try.prog 43 #[.int .i64 f, .int .i64 ps] w fun e w' => e = .returned (.int .i64 pa) ∧ Below w.heap.size w w' by have := c_l3Alter f ps w hf hps0 hps6; rw [hpa] at this; exact this)
            clear htn hpa
            go_wp2_with fail
            (go_at_call 42; (with_reducible refine (HTN.out _).mono ?_); rintro e w' ⟨rfl, rfl⟩)
            go_wp2_with fail
            (go_at_call 43; (with_reducible refine (HCA.out _).mono ?_); rintro e wq ⟨rfl, hbq⟩)
            have HOa := Lib.hid ((own_belA HOW.out hbq).alloc (.cells #[.int .i64 ps, .int .i64 pa, .int .i64 po] 32))
            have HBa := Lib.hid (Below.alloc (B := w.heap.size) (hbl.trans (hbq.mono hz)) (by have := hbq.size; omega) (.cells #[.int .i64 ps, .int .i64 pa, .int .i64 po] 32))
            have hsz9 := hbq.size
            go_wp2_with (at_builtin; refine wp_appl (by rfl) (.tmp 37) (.tmp 47) 25 32 rfl _ 3 24 Try.underlying25 info_pit rfl (by decide) (by decide) w.heap.size g cap k _ rfl HOa.out wq.heap.size 0 1 1 (Pit.cells ⟨ps, pa, po⟩) rfl rfl (cells_newP wq ps pa po) (pit_one _) (by omega) ?c2 ?_)
            case c2 => first | omega | (simp only [size_alloc', size_setCell']; omega)
            intro g4 cap4 w4 hown4 hgr4 hat4 hlt4
            have HO4 := Lib.hid (scale_own hown4 HKP.out)
            have HB4 := Lib.hid (bel_app HBa.out HOa.out hgr4 (Nat.le_refl _) (by simp only [size_alloc', size_setCell']; omega))
            clear hown4 hgr4 hat4
            go_wp2_with fail
            go_roundw
            case rel => exact ⟨k + 1, g4, cap4, by omega, by go_num, rfl, HO4.out, HB4.out⟩
            case measure => simp [intOf]; omega
          · obtain rfl : k = 3 := by omega
            go_wp2
            go_ret
            exact ⟨_, rfl, by rw [HV.out, scaleTo_len]; exact HOW.out, hbl⟩
      case true =>
        have HV := Lib.hid (show chordOn f m d true = scaleTo f m d 2 4 by unfold chordOn; rw [hf, hd]; rfl)
        go_enter Try.func13, Try.ntmps13
        go_wp2_with (go_at_call 41; refine (c_l1In _ _ _ _).mono ?_; rintro e w' ⟨rfl, rfl⟩; first | rw [hf] | rw [hd])
        go_loopw [9, 11] (fun o v wr => ∃ (k g cap : Nat), k ≤ 4 ∧ v = .int .i64 (2 * (k : Int)) ∧ o = .slice (some ⟨g, 0, none⟩) k cap ∧ wr.ownsRow w.heap.size 32 3 (.slice (some ⟨g, 0, none⟩) k cap) k (pitCells (scaleTo f m d 2 k)) ∧ Below w.heap.size w wr) (fun _ v _ => 9 - (intOf v).toNat)
        case atStart => exact ⟨0, _, _, by omega, rfl, rfl, HO0.out, bel1 _ _⟩
        case round =>
          obtain ⟨k, g, cap, hk, rfl, rfl, hown, hbl⟩ := hrel
          have HOW := Lib.hid hown
          have hz := hbl.size
          clear hown
          by_cases hlt : k < 4
          · have hle : 2 * (k : Int) ≤ 6 := by omega
            obtain ⟨t1, t2⟩ := tonicK_bd f m
            obtain ⟨tn, htn⟩ : ∃ t, tonicK f m = t := ⟨_, rfl⟩
            rw [htn] at t1 t2
            have HTN := Lib.hid (fun w => show Calls Try.prog 42 #[.int .i64 f, .bool m] w fun e w' => e = .returned (.int .i64 tn) ∧ w = w' by have := c_l3Tonic f m w hf; rw [htn] at this; exact this)
            obtain ⟨ps, hps⟩ : ∃ p, (28 + tn + d + 2 * (k : Int)) % 7 = p := ⟨_, rfl⟩
            obtain ⟨po, hpo⟩ : ∃ p, (28 + tn + d + 2 * (k : Int)) / 7 = p := ⟨_, rfl⟩
            obtain ⟨pa, hpa⟩ : ∃ p, alterK f ps = p := ⟨_, rfl⟩
            have HKP := Lib.hid (show keyPit f (28 + tonicK f m + d + 2 * (k : Int)) = ⟨ps, pa, po⟩ by unfold keyPit; rw [htn, hps, hpo, hpa])
            have hps0 : 0 ≤ ps := by omega
            have hps6 : ps ≤ 6 := by omega
            have hpl0 : 0 ≤ 28 + tn + d + 2 * (k : Int) := by omega
            have HCA := Lib.hid (fun w => show Calls Try.prog 43 #[.int .i64 f, .int .i64 ps] w fun e w' => e = .returned (.int .i64 pa) ∧ Below w.heap.size w w' by have := c_l3Alter f ps w hf hps0 hps6; rw [hpa] at this; exact this)
            clear htn hpa
            go_wp2_with fail
            (go_at_call 42; (with_reducible refine (HTN.out _).mono ?_); rintro e w' ⟨rfl, rfl⟩)
            go_wp2_with fail
            (go_at_call 43; (with_reducible refine (HCA.out _).mono ?_); rintro e wq ⟨rfl, hbq⟩)
            have HOa := Lib.hid ((own_belA HOW.out hbq).alloc (.cells #[.int .i64 ps, .int .i64 pa, .int .i64 po] 32))
            have HBa := Lib.hid (Below.alloc (B := w.heap.size) (hbl.trans (hbq.mono hz)) (by have := hbq.size; omega) (.cells #[.int .i64 ps, .int .i64 pa, .int .i64 po] 32))
            have hsz9 := hbq.size
            go_wp2_with (at_builtin; refine wp_appl (by rfl) (.tmp 37) (.tmp 47) 25 32 rfl _ 3 24 Try.underlying25 info_pit rfl (by decide) (by decide) w.heap.size g cap k _ rfl HOa.out wq.heap.size 0 1 1 (Pit.cells ⟨ps, pa, po⟩) rfl rfl (cells_newP wq ps pa po) (pit_one _) (by omega) ?c2 ?_)
            case c2 => first | omega | (simp only [size_alloc', size_setCell']; omega)
            intro g4 cap4 w4 hown4 hgr4 hat4 hlt4
            have HO4 := Lib.hid (scale_own hown4 HKP.out)
            have HB4 := Lib.hid (bel_app HBa.out HOa.out hgr4 (Nat.le_refl _) (by simp only [size_alloc', size_setCell']; omega))
            clear hown4 hgr4 hat4
            go_wp2_with fail
            go_roundw
            case rel => exact ⟨k + 1, g4, cap4, by omega, by go_num, rfl, HO4.out, HB4.out⟩
            case measure => simp [intOf]; omega
          · obtain rfl : k = 4 := by omega
            go_wp2
            go_ret
            exact ⟨_, rfl, by rw [HV.out, scaleTo_len]; exact HOW.out, hbl⟩
end Go.Proofs.Ytiameebjcmnmeaa
