/- ProgressionFault and CadenceOf on both sides; the walks of their exact laws. Conditions: none beyond the laws' own. -/
import Derived.Test.YtpngjofplbnkjaaI1
namespace Go.Proofs.Ytpngjofplbnkjaa
open Go.RowKit
set_option linter.unusedSimpArgs false
set_option linter.unusedVariables false
set_option maxHeartbeats 4000000

def badP (x y : Int) : Bool := (x == 4 || x == 6) && (y == 1 || y == 3)
def badAt (l : List Int) (k : Nat) : Bool := match l[k - 1]?, l[k]? with | some x, some y => badP x y | _, _ => false
def progGo (l : List Int) : Nat → Nat → Int
  | 0, _ => -1
  | n + 1, k => if badAt l k = true then (k : Int) else progGo l n (k + 1)
def progF (l : List Int) : Int := if ∀ i (h : i < l.length), inB l[i] 0 6 = true then progGo l (l.length - 1) 1 else -1
theorem prog_step (l : List Int) (j : Nat) (h : j + 1 < l.length) : progGo l (l.length - (j + 1)) (j + 1) = if badP (l[j]'(by omega)) l[j + 1] = true then ((j : Int) + 1) else progGo l (l.length - (j + 2)) (j + 2) := by
  rw [show l.length - (j + 1) = (l.length - (j + 2)) + 1 by omega]
  show (if badAt l (j + 1) = true then _ else _) = _
  have hb : badAt l (j + 1) = badP (l[j]'(by omega)) l[j + 1] := by
    unfold badAt
    rw [Nat.add_sub_cancel, List.getElem?_eq_getElem (show j < l.length by omega), List.getElem?_eq_getElem h]
  rw [hb]
  rfl
theorem prog_end (l : List Int) (j : Nat) (h : ¬ j + 1 < l.length) : progGo l (l.length - (j + 1)) (j + 1) = -1 := by
  rw [show l.length - (j + 1) = 0 by omega]; rfl
theorem prog_no (l : List Int) (k : Nat) (h : k < l.length) (hb : inB l[k] 0 6 = false) : progF l = -1 := by
  unfold progF
  rw [if_neg]
  intro ha
  rw [ha k h] at hb
  cases hb
theorem prog_ok (l : List Int) (ha : ∀ i (h : i < l.length), inB l[i] 0 6 = true) : progF l = progGo l (l.length - (0 + 1)) (0 + 1) := by
  unfold progF; rw [if_pos ha]
theorem badP_cases (x y : Int) :
    (badP x y = true ∧ ((x = 4 ∧ y = 1) ∨ (x = 4 ∧ y = 3) ∨ (x = 6 ∧ y = 1) ∨ (x = 6 ∧ y = 3))) ∨
    (badP x y = false ∧ (((x == 4) = false ∧ (x == 6) = false) ∨ (x = 4 ∧ (y == 1) = false ∧ (y == 3) = false) ∨ (x = 6 ∧ (y == 1) = false ∧ (y == 3) = false))) := by
  unfold badP
  by_cases h1 : x = 4
  · subst h1
    by_cases h3 : y = 1
    · subst h3; simp
    · by_cases h4 : y = 3
      · subst h4; simp
      · simp [h3, h4]
  · by_cases h2 : x = 6
    · subst h2
      by_cases h3 : y = 1
      · subst h3; simp
      · by_cases h4 : y = 3
        · subst h4; simp
        · simp [h3, h4]
    · simp [h1, h2]
theorem c_ProgressionFault (v : Value) (l : List Int) (w : World) (h : Rd w v 1 l.length (intCells l)) :
    Calls Try.prog 20 #[v] w fun e w' => e = .returned (.int .i64 (progF l)) ∧ Below w.heap.size w w' := by
  obtain ⟨_, A, c, rfl, hnc, hcm, hA⟩ := h
  unfold maxLen at hcm
  go_enter Try.func20, Try.ntmps20
  go_wp2
  go_loopw [10] (fun i wr => ∃ k : Nat, k ≤ l.length ∧ i = .int .i64 k ∧ Below w.heap.size w wr ∧ ∀ i (h : i < l.length), i < k → inB l[i] 0 6 = true) (fun i _ => l.length - (intOf i).toNat)
  case atStart => exact ⟨0, Nat.zero_le _, rfl, Below.refl _ _, fun i _ hi => absurd hi (by omega)⟩
  case round =>
    obtain ⟨k, hk, rfl, hbl, hok⟩ := hrel
    have HOK := Lib.hid hok
    clear hok
    by_cases hlt : k < l.length
    · obtain ⟨b, off, rfl, hcc⟩ := hA (by omega)
      have p0 := int_at (rd_later hbl hcc) k hlt
      have HN := Lib.hid (prog_no l k hlt)
      have HS := Lib.hid (show inB l[k] 0 6 = true → ∀ i (h : i < l.length), i < k + 1 → inB l[i] 0 6 = true by
        intro he i h1 hi
        rcases Nat.lt_succ_iff_lt_or_eq.1 hi with h3 | rfl
        · exact HOK.out i h1 h3
        · exact he)
      generalize l[k] = x at *
      clear hA hcc
      cases hin : inB x 0 6
      · have HF := Lib.hid (HN.out hin)
        go_wp2_with (go_at_call 58; (with_reducible refine (c_within _ _ _ _).mono ?_); rintro e wq ⟨rfl, rfl⟩)
        go_ret
        exact ⟨ret_int HF.out.symm, by (repeat' (first | (with_reducible exact Below.refl _ _) | (with_reducible refine Below.setCell ?_ ?_ _) | (with_reducible refine Below.alloc ?_ ?_ _) | (with_reducible refine Below.drew ?_) | (with_reducible refine below_drewN ?_ _) | (with_reducible refine Below.trans ?_ (Below.mono (by with_reducible assumption) ?_)) | omega | (simp only [size_alloc', size_setCell', size_drew', size_drewN'] at *; omega)))⟩
      · have HF := Lib.hid (HS.out hin)
        go_wp2_with (go_at_call 58; (with_reducible refine (c_within _ _ _ _).mono ?_); rintro e wq ⟨rfl, rfl⟩)
        go_roundw
        case rel => exact ⟨k + 1, by omega, by go_num, by (repeat' (first | (with_reducible exact Below.refl _ _) | (with_reducible refine Below.setCell ?_ ?_ _) | (with_reducible refine Below.alloc ?_ ?_ _) | (with_reducible refine Below.drew ?_) | (with_reducible refine below_drewN ?_ _) | (with_reducible refine Below.trans ?_ (Below.mono (by with_reducible assumption) ?_)) | omega | (simp only [size_alloc', size_setCell', size_drew', size_drewN'] at *; omega))), HF.out⟩
        case measure => simp [intOf]; omega
    · have HP := Lib.hid (prog_ok l (fun i h => HOK.out i h (by omega)))
      go_wp2
      go_loopw [5] (fun i w2 => ∃ j : Nat, i = .int .i64 ((j : Int) + 1) ∧ j ≤ l.length ∧ Below w.heap.size w w2 ∧ progF l = progGo l (l.length - (j + 1)) (j + 1)) (fun i _ => l.length + 2 - (intOf i).toNat)
      case atStart => exact ⟨0, rfl, by omega, by (repeat' (first | (with_reducible exact Below.refl _ _) | (with_reducible refine Below.setCell ?_ ?_ _) | (with_reducible refine Below.alloc ?_ ?_ _) | (with_reducible refine Below.drew ?_) | (with_reducible refine below_drewN ?_ _) | (with_reducible refine Below.trans ?_ (Below.mono (by with_reducible assumption) ?_)) | omega | (simp only [size_alloc', size_setCell', size_drew', size_drewN'] at *; omega))), HP.out⟩
      case round =>
        obtain ⟨j, rfl, hj, hb2, hp⟩ := hrel
        have HQ := Lib.hid hp
        clear hp
        by_cases hlt2 : j + 1 < l.length
        · obtain ⟨b, off, rfl, hcc⟩ := hA (by omega)
          have p0 := int_at (rd_later hb2 hcc) j (by omega)
          have q0 := int_at (rd_later hb2 hcc) (j + 1) hlt2
          have HT := Lib.hid (HQ.out.trans (prog_step l j hlt2))
          generalize l[j]'_ = x at *
          generalize l[j + 1]'_ = y at *
          have hi1 : (0 : Int) ≤ (j : Int) := by omega
          have hi2 : (j : Int) + 1 < (l.length : Int) := by omega
          clear hA hcc
          rcases badP_cases x y with ⟨hb, hc⟩ | ⟨hb, hc⟩
          · have HF := Lib.hid (HT.out.trans (if_pos hb))
            clear hb
            rcases hc with ⟨rfl, rfl⟩ | ⟨rfl, rfl⟩ | ⟨rfl, rfl⟩ | ⟨rfl, rfl⟩
            all_goals
              go_wp2
              go_quiet (fail)
              go_wp2
              go_ret
              exact ⟨ret_int HF.out.symm, by (repeat' (first | (with_reducible exact Below.refl _ _) | (with_reducible refine Below.setCell ?_ ?_ _) | (with_reducible refine Below.alloc ?_ ?_ _) | (with_reducible refine Below.drew ?_) | (with_reducible refine below_drewN ?_ _) | (with_reducible refine Below.trans ?_ (Below.mono (by with_reducible assumption) ?_)) | omega | (simp only [size_alloc', size_setCell', size_drew', size_drewN'] at *; omega)))⟩
          · have HF := Lib.hid (HT.out.trans (if_neg (by rw [hb]; decide)))
            clear hb
            rcases hc with ⟨g1, g2⟩ | ⟨rfl, g1, g2⟩ | ⟨rfl, g1, g2⟩
            all_goals
              go_wp2
              go_quiet (fail)
              go_wp2
              go_roundw
              case rel => exact ⟨j + 1, by go_num, by omega, by (repeat' (first | (with_reducible exact Below.refl _ _) | (with_reducible refine Below.setCell ?_ ?_ _) | (with_reducible refine Below.alloc ?_ ?_ _) | (with_reducible refine Below.drew ?_) | (with_reducible refine below_drewN ?_ _) | (with_reducible refine Below.trans ?_ (Below.mono (by with_reducible assumption) ?_)) | omega | (simp only [size_alloc', size_setCell', size_drew', size_drewN'] at *; omega))), HF.out⟩
              case measure => simp [intOf]; omega
        · have HF := Lib.hid (HQ.out.trans (prog_end l j hlt2))
          clear hA
          go_wp2
          go_ret
          exact ⟨ret_int HF.out.symm, by (repeat' (first | (with_reducible exact Below.refl _ _) | (with_reducible refine Below.setCell ?_ ?_ _) | (with_reducible refine Below.alloc ?_ ?_ _) | (with_reducible refine Below.drew ?_) | (with_reducible refine below_drewN ?_ _) | (with_reducible refine Below.trans ?_ (Below.mono (by with_reducible assumption) ?_)) | omega | (simp only [size_alloc', size_setCell', size_drew', size_drewN'] at *; omega)))⟩
theorem c_sProgressionFault (v : Value) (l : List Int) (w : World) (h : Rd w v 1 l.length (intCells l)) :
    Calls Try.prog 18 #[v] w fun e w' => e = .returned (.int .i64 (progF l)) ∧ Below w.heap.size w w' := by
  obtain ⟨_, A, c, rfl, hnc, hcm, hA⟩ := h
  unfold maxLen at hcm
  go_enter Try.func18, Try.ntmps18
  go_wp2
  go_loopw [3] (fun i wr => ∃ k : Nat, k ≤ l.length ∧ i = .int .i64 k ∧ Below w.heap.size w wr ∧ ∀ i (h : i < l.length), i < k → inB l[i] 0 6 = true) (fun i _ => l.length - (intOf i).toNat)
  case atStart => exact ⟨0, Nat.zero_le _, rfl, Below.refl _ _, fun i _ hi => absurd hi (by omega)⟩
  case round =>
    obtain ⟨k, hk, rfl, hbl, hok⟩ := hrel
    have HOK := Lib.hid hok
    clear hok
    by_cases hlt : k < l.length
    · obtain ⟨b, off, rfl, hcc⟩ := hA (by omega)
      have p0 := int_at (rd_later hbl hcc) k hlt
      have HN := Lib.hid (prog_no l k hlt)
      have HS := Lib.hid (show inB l[k] 0 6 = true → ∀ i (h : i < l.length), i < k + 1 → inB l[i] 0 6 = true by
        intro he i h1 hi
        rcases Nat.lt_succ_iff_lt_or_eq.1 hi with h3 | rfl
        · exact HOK.out i h1 h3
        · exact he)
      generalize l[k] = x at *
      clear hA hcc
      cases hin : inB x 0 6
      · have HF := Lib.hid (HN.out hin)
        go_wp2_with (go_at_call 57; (with_reducible refine (c_l1In _ _ _ _).mono ?_); rintro e wq ⟨rfl, rfl⟩)
        go_ret
        exact ⟨ret_int HF.out.symm, by (repeat' (first | (with_reducible exact Below.refl _ _) | (with_reducible refine Below.setCell ?_ ?_ _) | (with_reducible refine Below.alloc ?_ ?_ _) | (with_reducible refine Below.drew ?_) | (with_reducible refine below_drewN ?_ _) | (with_reducible refine Below.trans ?_ (Below.mono (by with_reducible assumption) ?_)) | omega | (simp only [size_alloc', size_setCell', size_drew', size_drewN'] at *; omega)))⟩
      · have HF := Lib.hid (HS.out hin)
        go_wp2_with (go_at_call 57; (with_reducible refine (c_l1In _ _ _ _).mono ?_); rintro e wq ⟨rfl, rfl⟩)
        go_roundw
        case rel => exact ⟨k + 1, by omega, by go_num, by (repeat' (first | (with_reducible exact Below.refl _ _) | (with_reducible refine Below.setCell ?_ ?_ _) | (with_reducible refine Below.alloc ?_ ?_ _) | (with_reducible refine Below.drew ?_) | (with_reducible refine below_drewN ?_ _) | (with_reducible refine Below.trans ?_ (Below.mono (by with_reducible assumption) ?_)) | omega | (simp only [size_alloc', size_setCell', size_drew', size_drewN'] at *; omega))), HF.out⟩
        case measure => simp [intOf]; omega
    · have HP := Lib.hid (prog_ok l (fun i h => HOK.out i h (by omega)))
      go_wp2
      go_loopw [4] (fun i w2 => ∃ j : Nat, i = .int .i64 ((j : Int) + 1) ∧ j ≤ l.length ∧ Below w.heap.size w w2 ∧ progF l = progGo l (l.length - (j + 1)) (j + 1)) (fun i _ => l.length + 2 - (intOf i).toNat)
      case atStart => exact ⟨0, rfl, by omega, by (repeat' (first | (with_reducible exact Below.refl _ _) | (with_reducible refine Below.setCell ?_ ?_ _) | (with_reducible refine Below.alloc ?_ ?_ _) | (with_reducible refine Below.drew ?_) | (with_reducible refine below_drewN ?_ _) | (with_reducible refine Below.trans ?_ (Below.mono (by with_reducible assumption) ?_)) | omega | (simp only [size_alloc', size_setCell', size_drew', size_drewN'] at *; omega))), HP.out⟩
      case round =>
        obtain ⟨j, rfl, hj, hb2, hp⟩ := hrel
        have HQ := Lib.hid hp
        clear hp
        by_cases hlt2 : j + 1 < l.length
        · obtain ⟨b, off, rfl, hcc⟩ := hA (by omega)
          have p0 := int_at (rd_later hb2 hcc) j (by omega)
          have q0 := int_at (rd_later hb2 hcc) (j + 1) hlt2
          have HT := Lib.hid (HQ.out.trans (prog_step l j hlt2))
          generalize l[j]'_ = x at *
          generalize l[j + 1]'_ = y at *
          have hi1 : (0 : Int) ≤ (j : Int) := by omega
          have hi2 : (j : Int) + 1 < (l.length : Int) := by omega
          clear hA hcc
          rcases badP_cases x y with ⟨hb, hc⟩ | ⟨hb, hc⟩
          · have HF := Lib.hid (HT.out.trans (if_pos hb))
            clear hb
            rcases hc with ⟨rfl, rfl⟩ | ⟨rfl, rfl⟩ | ⟨rfl, rfl⟩ | ⟨rfl, rfl⟩
            all_goals
              go_wp2
              go_ret
              exact ⟨ret_int HF.out.symm, by (repeat' (first | (with_reducible exact Below.refl _ _) | (with_reducible refine Below.setCell ?_ ?_ _) | (with_reducible refine Below.alloc ?_ ?_ _) | (with_reducible refine Below.drew ?_) | (with_reducible refine below_drewN ?_ _) | (with_reducible refine Below.trans ?_ (Below.mono (by with_reducible assumption) ?_)) | omega | (simp only [size_alloc', size_setCell', size_drew', size_drewN'] at *; omega)))⟩
          · have HF := Lib.hid (HT.out.trans (if_neg (by rw [hb]; decide)))
            clear hb
            rcases hc with ⟨g1, g2⟩ | ⟨rfl, g1, g2⟩ | ⟨rfl, g1, g2⟩
            all_goals
              go_wp2
              go_roundw
              case rel => exact ⟨j + 1, by go_num, by omega, by (repeat' (first | (with_reducible exact Below.refl _ _) | (with_reducible refine Below.setCell ?_ ?_ _) | (with_reducible refine Below.alloc ?_ ?_ _) | (with_reducible refine Below.drew ?_) | (with_reducible refine below_drewN ?_ _) | (with_reducible refine Below.trans ?_ (Below.mono (by with_reducible assumption) ?_)) | omega | (simp only [size_alloc', size_setCell', size_drew', size_drewN'] at *; omega))), HF.out⟩
              case measure => simp [intOf]; omega
        · have HF := Lib.hid (HQ.out.trans (prog_end l j hlt2))
          clear hA
          go_wp2
          go_ret
          exact ⟨ret_int HF.out.symm, by (repeat' (first | (with_reducible exact Below.refl _ _) | (with_reducible refine Below.setCell ?_ ?_ _) | (with_reducible refine Below.alloc ?_ ?_ _) | (with_reducible refine Below.drew ?_) | (with_reducible refine below_drewN ?_ _) | (with_reducible refine Below.trans ?_ (Below.mono (by with_reducible assumption) ?_)) | omega | (simp only [size_alloc', size_setCell', size_drew', size_drewN'] at *; omega)))⟩
theorem walk_FnExactProgressionFault (w : World) (v : Value) (l : List Int) (h : Rd w v 1 l.length (intCells l)) (hg : ∀ a ∈ l, I64 a) :
    Calls Try.prog 3 #[v] w fun e w' => e = .returned (.bool true) ∧ Below w.heap.size w w' := by
  have h' := Lib.hid h
  obtain ⟨_, A, c, rfl, hnc, hcm, hA⟩ := h
  unfold maxLen at hcm
  clear hA
  by_cases hn : l.length ≤ 1048576
  · have S2 := Below.refl w.heap.size w
    go_enter Try.func3, Try.ntmps3
    go_wp2_with fail
    (go_at_call 19; (with_reducible refine (c_toIntS _ l _ (h'.out.below (Nat.le_refl _) S2) hn).mono ?_); rintro e w2 ⟨v2, rfl, hown2, hb2⟩; have S2 := (S2.trans (hb2.mono S2.size)))
    have hr2 := Rd.of_own hown2
    go_wp2_with fail
    (go_at_call 18; (with_reducible refine (c_sProgressionFault _ l _ hr2).mono ?_); rintro e w4 ⟨rfl, hb4⟩; have S2 := (S2.trans (hb4.mono S2.size)))
    go_wp2_with fail
    (go_at_call 19; (with_reducible refine (c_toIntS _ l _ (h'.out.below (Nat.le_refl _) S2) hn).mono ?_); rintro e w5 ⟨v5, rfl, hown5, hb5⟩; have S2 := (S2.trans (hb5.mono S2.size)))
    have hr5 := Rd.of_own hown5
    go_wp2_with fail
    (go_at_call 20; (with_reducible refine (c_ProgressionFault _ l _ hr5).mono ?_); rintro e w7 ⟨rfl, hb7⟩; have S2 := (S2.trans (hb7.mono S2.size)))
    have hr7 := hr5.below (Nat.le_refl _) hb7
    go_wp2_with fail
    (go_at_call 19; (with_reducible refine (c_toIntS _ l _ (h'.out.below (Nat.le_refl _) S2) hn).mono ?_); rintro e w8 ⟨v8, rfl, hown8, hb8⟩; have S2 := (S2.trans (hb8.mono S2.size)))
    have hr8 := hr7.below (Nat.le_refl _) hb8
    have hE : decide (l = l) = true := by simp
    go_wp2_with fail
    (go_at_call 21; (with_reducible refine (c_eqIntS _ _ l l _ hr8 (Rd.of_own hown8)).mono ?_); rintro e w9 ⟨rfl, hb9⟩; have S2 := (S2.trans (hb9.mono S2.size)))
    go_wp2
    go_ret
    exact ⟨rfl, S2⟩
  · go_enter Try.func3, Try.ntmps3
    go_wp2
    go_ret
    exact ⟨rfl, Below.refl _ _⟩
end Go.Proofs.Ytpngjofplbnkjaa
