/- Scales and chords of keys: both sides. Conditions: none. -/
import Derived.Test.YtiameebjcmnmeaaK1
import Derived.Test.YtiameebjcmnmeaaAP
namespace Go.Proofs.Ytiameebjcmnmeaa
open Go.RowKit
set_option linter.unusedSimpArgs false
set_option linter.unusedVariables false
set_option maxHeartbeats 8000000
def PitsOf (l : List Pit) (w : World) (e : Ending) (w' : World) : Prop :=
  ∃ v, e = .returned v ∧ w'.ownsRow w.heap.size 32 3 v l.length (pitCells l) ∧ Below w.heap.size w w'
theorem pits_nil_own {w w' : World} : w'.ownsRow w.heap.size 32 3 (.slice none 0 0) 0 (pitCells []) := ⟨rfl, .inl ⟨rfl, rfl⟩⟩
theorem cells_newP (W : World) (a b c : Int) : ∀ j u, (Pit.cells ⟨a, b, c⟩)[j]? = some u → (W.alloc (.cells #[.int .i64 a, .int .i64 b, .int .i64 c] 32)).cell? ⟨W.heap.size, 0 + j, none⟩ = some u := by
  intro j u hu
  rw [cell_of_row _ W.heap.size (0 + j) _ _ _ (heap_alloc_new W _)]
  have hj : j < 3 := by
    by_cases h : j < 3
    · exact h
    · rw [List.getElem?_eq_none (by rw [Pit.cells_len]; omega)] at hu; cases hu
  have h3 : j = 0 ∨ j = 1 ∨ j = 2 := by omega
  rcases h3 with rfl | rfl | rfl <;> exact hu
theorem scale_own {W : World} {base g cap k : Nat} {f : Int} {m : Bool} {d st : Int} {p : Pit} (h : W.ownsRow base 32 3 (.slice (some ⟨g, 0, none⟩) (k + 1) cap) (k + 1) (pitCells (scaleTo f m d st k) ++ p.cells)) (hp : keyPit f (28 + tonicK f m + d + st * k) = p) :
    W.ownsRow base 32 3 (.slice (some ⟨g, 0, none⟩) (k + 1) cap) (k + 1) (pitCells (scaleTo f m d st (k + 1))) := by
  rw [scaleTo_succ, pits_snoc, hp]
  exact h
set_option maxRecDepth 100000 in
theorem c_ChordOn (f : Int) (m : Bool) (d : Int) (s : Bool) (w : World) :
    Calls Try.prog 11 #[.int .i64 f, .bool m, .int .i64 d, .bool s] w (PitsOf (chordOn f m d s) w) := by
  cases hf : inB f (-7) 7
  · have HV := Lib.hid (show chordOn f m d s = [] by unfold chordOn; rw [hf]; simp)
    go_enter Try.func11, Try.ntmps11
    go_wp2_with (first | (go_at_call 37; refine (c_isKey _ _).mono ?_; rintro e w' ⟨rfl, rfl⟩; rw [hf]) | (go_at_call 38; refine (c_within _ _ _ _).mono ?_; rintro e w' ⟨rfl, rfl⟩))
    go_ret
    exact ⟨_, rfl, by rw [HV.out]; exact pits_nil_own, Below.refl _ _⟩
  · cases hd : inB d 0 6
    · have HV := Lib.hid (show chordOn f m d s = [] by unfold chordOn; rw [hd]; simp)
      go_enter Try.func11, Try.ntmps11
      go_wp2_with (first | (go_at_call 37; refine (c_isKey _ _).mono ?_; rintro e w' ⟨rfl, rfl⟩; rw [hf]) | (go_at_call 38; refine (c_within _ _ _ _).mono ?_; rintro e w' ⟨rfl, rfl⟩; rw [hd]))
      go_ret
      exact ⟨_, rfl, by rw [HV.out]; exact pits_nil_own, Below.refl _ _⟩
    · obtain ⟨hf1, hf2⟩ := inB_iff.1 hf
      obtain ⟨hd1, hd2⟩ := inB_iff.1 hd
      have HO0 := Lib.hid (own_new w 32 3)
      cases s
      case false =>
        have HV := Lib.hid (show chordOn f m d false = scaleTo f m d 2 3 by unfold chordOn; rw [hf, hd]; rfl)
        go_enter Try.func11, Try.ntmps11
        go_wp2_with (first | (go_at_call 37; refine (c_isKey _ _).mono ?_; rintro e w' ⟨rfl, rfl⟩; rw [hf]) | (go_at_call 38; refine (c_within _ _ _ _).mono ?_; rintro e w' ⟨rfl, rfl⟩; rw [hd]))
        go_loopw [10, 11] (fun o v wr => ∃ (k g cap : Nat), k ≤ 3 ∧ v = .int .i64 (2 * (k : Int)) ∧ o = .slice (some ⟨g, 0, none⟩) k cap ∧ wr.ownsRow w.heap.size 32 3 (.slice (some ⟨g, 0, none⟩) k cap) k (pitCells (scaleTo f m d 2 k)) ∧ Below w.heap.size w wr) (fun _ v _ => 9 - (intOf v).toNat)
        case atStart => exact ⟨0, _, _, by omega, rfl, rfl, HO0.out, bel1 _ _⟩
        case round =>
          obtain ⟨k, g, cap, hk, rfl, rfl, hown, hbl⟩ := hrel
          have HOW := Lib.hid hown
          have hz := hbl.size
          clear hown
          by_cases hlt : k < 3
          · have hle : 2 * (k : Int) ≤ 4 := by omega
            obtain ⟨⟨ps, pa, po⟩, hkp⟩ : ∃ p, keyPit f (28 + tonicK f m + d + 2 * (k : Int)) = p := ⟨_, rfl⟩
            obtain ⟨t1, t2⟩ := tonicK_bd f m
            have HKP := Lib.hid hkp
            have HCP := Lib.hid (fun (pl : Int) (he : pl = 28 + tonicK f m + d + 2 * (k : Int)) w => show Calls Try.prog 39 #[.int .i64 f, .int .i64 pl] w fun e w' => e = .returned (.agg #[.int .i64 ps, .int .i64 pa, .int .i64 po]) ∧ Below w.heap.size w w' by subst he; have := c_keyPitch f (28 + tonicK f m + d + 2 * (k : Int)) w hf (by omega) (by omega); rw [hkp] at this; exact this)
            clear hkp
            go_wp2_with fail
            (go_at_call 40; (with_reducible refine (c_tonicPlace f m _ hf).mono ?_); rintro e w' ⟨rfl, rfl⟩)
            go_wp2_with fail
            (go_at_call 39; (with_reducible refine (HCP.out _ (by omega) _).mono ?_); rintro e wq ⟨rfl, hbq⟩)
            have HOa := Lib.hid ((own_belA HOW.out hbq).alloc (.cells #[.int .i64 ps, .int .i64 pa, .int .i64 po] 32))
            have HBa := Lib.hid (Below.alloc (B := w.heap.size) (hbl.trans (hbq.mono hz)) (by have := hbq.size; omega) (.cells #[.int .i64 ps, .int .i64 pa, .int .i64 po] 32))
            have hsz9 := hbq.size
            go_wp2_with (at_builtin; refine wp_appl (by rfl) (.tmp 27) (.tmp 37) 25 32 rfl _ 3 24 Try.underlying25 info_pit rfl (by decide) (by decide) w.heap.size g cap k _ rfl HOa.out wq.heap.size 0 1 1 (Pit.cells ⟨ps, pa, po⟩) rfl rfl (cells_newP wq ps pa po) (pit_one _) (by omega) ?c2 ?_)
            case c2 => first | omega | (simp only [size_alloc', size_setCell']; omega)
            intro g4 cap4 w4 hown4 hgr4 hat4 hlt4
            have HO4 := Lib.hid (scale_own hown4 HKP.out)
            have HB4 := Lib.hid (bel_app HBa.out HOa.out hgr4 (Nat.le_refl _) (by simp only [size_alloc', size_setCell']; omega))
            clear hown4 hgr4 hat4
            go_wp2_with fail
            go_roundw
            case rel => exact ⟨k + 1, g4, cap4, by omega, by go_num, rfl, HO4.out, HB4.out⟩
            case measure => simp [intOf]; omega
          · obtain rfl : k = 3 := by omega
            go_wp2
            go_ret
            exact ⟨_, rfl, by rw [HV.out, scaleTo_len]; exact HOW.out, hbl⟩
      case true =>
        have HV := Lib.hid (show chordOn f m d true = scaleTo f m d 2 4 by unfold chordOn; rw [hf, hd]; rfl)
        go_enter Try.func11, Try.ntmps11
        go_wp2_with (first | (go_at_call 37; refine (c_isKey _ _).mono ?_; rintro e w' ⟨rfl, rfl⟩; rw [hf]) | (go_at_call 38; refine (c_within _ _ _ _).mono ?_; rintro e w' ⟨rfl, rfl⟩; rw [hd]))
        go_loopw [10, 11] (fun o v wr => ∃ (k g cap : Nat), k ≤ 4 ∧ v = .int .i64 (2 * (k : Int)) ∧ o = .slice (some ⟨g, 0, none⟩) k cap ∧ wr.ownsRow w.heap.size 32 3 (.slice (some ⟨g, 0, none⟩) k cap) k (pitCells (scaleTo f m d 2 k)) ∧ Below w.heap.size w wr) (fun _ v _ => 9 - (intOf v).toNat)
        case atStart => exact ⟨0, _, _, by omega, rfl, rfl, HO0.out, bel1 _ _⟩
        case round =>
          obtain ⟨k, g, cap, hk, rfl, rfl, hown, hbl⟩ := hrel
          have HOW := Lib.hid hown
          have hz := hbl.size
          clear hown
          by_cases hlt : k < 4
          · have hle : 2 * (k : Int) ≤ 6 := by omega
            obtain ⟨⟨ps, pa, po⟩, hkp⟩ : ∃ p, keyPit f (28 + tonicK f m + d + 2 * (k : Int)) = p := ⟨_, rfl⟩
            obtain ⟨t1, t2⟩ := tonicK_bd f m
            have HKP := Lib.hid hkp
            have HCP := Lib.hid (fun (pl : Int) (he : pl = 28 + tonicK f m + d + 2 * (k : Int)) w => show Calls Try.prog 39 #[.int .i64 f, .int .i64 pl] w fun e w' => e = .returned (.agg #[.int .i64 ps, .int .i64 pa, .int .i64 po]) ∧ Below w.heap.size w w' by subst he; have := c_keyPitch f (28 + tonicK f m + d + 2 * (k : Int)) w hf (by omega) (by omega); rw [hkp] at this; exact this)
            clear hkp
            go_wp2_with fail
            (go_at_call 40; (with_reducible refine (c_tonicPlace f m _ hf).mono ?_); rintro e w' ⟨rfl, rfl⟩)
            go_wp2_with fail
            (go_at_call 39; (with_reducible refine (HCP.out _ (by omega) _).mono ?_); rintro e wq ⟨rfl, hbq⟩)
            have HOa := Lib.hid ((own_belA HOW.out hbq).alloc (.cells #[.int .i64 ps, .int .i64 pa, .int .i64 po] 32))
            have HBa := Lib.hid (Below.alloc (B := w.heap.size) (hbl.trans (hbq.mono hz)) (by have := hbq.size; omega) (.cells #[.int .i64 ps, .int .i64 pa, .int .i64 po] 32))
            have hsz9 := hbq.size
            go_wp2_with (at_builtin; refine wp_appl (by rfl) (.tmp 27) (.tmp 37) 25 32 rfl _ 3 24 Try.underlying25 info_pit rfl (by decide) (by decide) w.heap.size g cap k _ rfl HOa.out wq.heap.size 0 1 1 (Pit.cells ⟨ps, pa, po⟩) rfl rfl (cells_newP wq ps pa po) (pit_one _) (by omega) ?c2 ?_)
            case c2 => first | omega | (simp only [size_alloc', size_setCell']; omega)
            intro g4 cap4 w4 hown4 hgr4 hat4 hlt4
            have HO4 := Lib.hid (scale_own hown4 HKP.out)
            have HB4 := Lib.hid (bel_app HBa.out HOa.out hgr4 (Nat.le_refl _) (by simp only [size_alloc', size_setCell']; omega))
            clear hown4 hgr4 hat4
            go_wp2_with fail
            go_roundw
            case rel => exact ⟨k + 1, g4, cap4, by omega, by go_num, rfl, HO4.out, HB4.out⟩
            case measure => simp [intOf]; omega
          · obtain rfl : k = 4 := by omega
            go_wp2
            go_ret
            exact ⟨_, rfl, by rw [HV.out, scaleTo_len]; exact HOW.out, hbl⟩
end Go.Proofs.Ytiameebjcmnmeaa
