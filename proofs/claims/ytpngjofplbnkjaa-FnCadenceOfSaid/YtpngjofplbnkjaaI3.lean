/- CadenceOf on both sides; the walk of its exact law. Conditions: none beyond the law's own. -/
import Derived.Test.YtpngjofplbnkjaaI1
namespace Go.Proofs.Ytpngjofplbnkjaa
open Go.RowKit
set_option linter.unusedSimpArgs false
set_option linter.unusedVariables false
set_option maxHeartbeats 4000000

def cadP (a b : Int) : Int := if a = 4 ∧ b = 0 then 1 else if a = 3 ∧ b = 0 then 2 else if a = 4 ∧ b = 5 then 3 else if b = 4 ∧ a ≠ 4 then 4 else 0
def cadF (l : List Int) : Int := match l[l.length - 2]?, l[l.length - 1]? with | some a, some b => if 2 ≤ l.length then cadP a b else 0 | _, _ => 0
theorem cad_short (l : List Int) (h : l.length < 2) : cadF l = 0 := by
  unfold cadF
  split
  · exact if_neg (by omega)
  · rfl
theorem cad_at (l : List Int) (m : Nat) (h : l.length = m + 2) : cadF l = cadP (l[m]'(by omega)) (l[m + 1]'(by omega)) := by
  unfold cadF
  rw [show l.length - 2 = m by omega, show l.length - 1 = m + 1 by omega, List.getElem?_eq_getElem (show m < l.length by omega), List.getElem?_eq_getElem (show m + 1 < l.length by omega)]
  exact if_pos (by omega)
theorem cadP_cases (a b : Int) :
    (a = 4 ∧ b = 0 ∧ cadP a b = 1) ∨ (a = 3 ∧ b = 0 ∧ cadP a b = 2) ∨ (a = 4 ∧ b = 5 ∧ cadP a b = 3) ∨
    (a = 4 ∧ b = 4 ∧ cadP a b = 0) ∨ (a = 4 ∧ (b == 0) = false ∧ (b == 5) = false ∧ (b == 4) = false ∧ cadP a b = 0) ∨
    (a = 3 ∧ b = 4 ∧ cadP a b = 4) ∨ (a = 3 ∧ (b == 0) = false ∧ (b == 4) = false ∧ cadP a b = 0) ∨
    ((a == 4) = false ∧ (a == 3) = false ∧ (a != 4) = true ∧ b = 4 ∧ cadP a b = 4) ∨ ((a == 4) = false ∧ (a == 3) = false ∧ (a != 4) = true ∧ (b == 4) = false ∧ cadP a b = 0) := by
  unfold cadP
  by_cases h1 : a = 4
  · subst h1
    by_cases h2 : b = 0
    · subst h2; simp
    · by_cases h3 : b = 5
      · subst h3; simp
      · by_cases h4 : b = 4
        · subst h4; simp
        · simp [h2, h3, h4]
  · by_cases h2 : a = 3
    · subst h2
      by_cases h3 : b = 0
      · subst h3; simp
      · by_cases h4 : b = 4
        · subst h4; simp
        · simp [h3, h4]
    · by_cases h4 : b = 4
      · subst h4; simp [h1, h2]
      · simp [h1, h2, h4]
theorem run_eq_pair (w : World) (a b c d : Int) : (Op.equalIn 10000 64 (.agg #[.int .i64 a, .int .i64 b]) (.agg #[.int .i64 c, .int .i64 d])).run Try.prog w = .ok (a == c && b == d) w := by
  obtain ⟨i0, hi0, hz0, hz1, hz2⟩ := info_parts info_int
  have hc : Try.prog.cellsOf 3 = 1 := by kernel_rfl
  have e := fun (W : World) (x y : Int) => run_equalIn_int (P := Try.prog) (w := W) 9998 3 .i64 .i64 x y Try.underlying3
  rw [show (10000 : Nat) = 9999 + 1 from rfl, run_equalIn_array w 9999 _ _ Try.underlying64 hi0, hc]
  simp only [show List.range 2 = [0, 1] from rfl, Op.eqItems, Sem.run_bind, show (9999 : Nat) = 9998 + 1 from rfl]
  have p0 : ∀ (x y : Int) (W : World), (part 3 #[.int .i64 x, .int .i64 y] (0 * 1)).run Try.prog W = .ok (.int .i64 x) W := by
    intro x y W; simp [part, sizeOf, typeInfo, hi0, hz1]
  have p1 : ∀ (x y : Int) (W : World), (part 3 #[.int .i64 x, .int .i64 y] (1 * 1)).run Try.prog W = .ok (.int .i64 y) W := by
    intro x y W; simp [part, sizeOf, typeInfo, hi0, hz1]
  simp only [p0, p1, e, Result.andThen_ok]
  cases h : (a == c) <;> cases h2 : (b == d) <;> simp [Op.eqItems, p0, p1, e, h2]
theorem c_CadenceOf (v : Value) (l : List Int) (w : World) (h : Rd w v 1 l.length (intCells l)) :
    Calls Try.prog 23 #[v] w fun e w' => e = .returned (.int .i64 (cadF l)) ∧ Below w.heap.size w w' := by
  obtain ⟨_, A, c, rfl, hnc, hcm, hA⟩ := h
  unfold maxLen at hcm
  by_cases hs : l.length < 2
  · have HF := Lib.hid (cad_short l hs)
    clear hA
    go_enter Try.func23, Try.ntmps23
    go_wp2
    go_ret
    exact ⟨ret_int HF.out.symm, Below.refl _ _⟩
  · obtain ⟨m, hm⟩ : ∃ m, l.length = m + 2 := ⟨l.length - 2, by omega⟩
    obtain ⟨b, off, rfl, hcc⟩ := hA (by omega)
    have p0 := int_at hcc m (by omega)
    have q0 := int_at hcc (m + 1) (by omega)
    have HC := Lib.hid (cad_at l m hm)
    generalize l[m]'_ = x at *
    generalize l[m + 1]'_ = y at *
    have hi1 : ((l.length : Nat) : Int) - 2 = (m : Int) := by omega
    have hi2 : ((l.length : Nat) : Int) - 1 = (m : Int) + 1 := by omega
    have hi3 : (2 : Int) ≤ ((l.length : Nat) : Int) := by omega
    clear hA hcc
    rcases cadP_cases x y with ⟨rfl, rfl, hc⟩ | ⟨rfl, rfl, hc⟩ | ⟨rfl, rfl, hc⟩ | ⟨rfl, rfl, hc⟩ | ⟨rfl, g1, g2, g3, hc⟩ | ⟨rfl, rfl, hc⟩ | ⟨rfl, g1, g2, hc⟩ | ⟨g1, g2, g3, rfl, hc⟩ | ⟨g1, g2, g3, g4, hc⟩
    all_goals
      have HF := Lib.hid (HC.out.trans hc)
      clear hc
      have hEq := run_eq_pair
      go_enter Try.func23, Try.ntmps23
      go_wp2
      go_quiet (fail)
      go_wp2
      go_ret
      exact ⟨ret_int HF.out.symm, by (repeat' (first | (with_reducible exact Below.refl _ _) | (with_reducible refine Below.setCell ?_ ?_ _) | (with_reducible refine Below.alloc ?_ ?_ _) | (with_reducible refine Below.drew ?_) | (with_reducible refine below_drewN ?_ _) | (with_reducible refine Below.trans ?_ (Below.mono (by with_reducible assumption) ?_)) | omega | (simp only [size_alloc', size_setCell', size_drew', size_drewN'] at *; omega)))⟩
theorem c_sCadenceOf (v : Value) (l : List Int) (w : World) (h : Rd w v 1 l.length (intCells l)) :
    Calls Try.prog 22 #[v] w fun e w' => e = .returned (.int .i64 (cadF l)) ∧ Below w.heap.size w w' := by
  obtain ⟨_, A, c, rfl, hnc, hcm, hA⟩ := h
  unfold maxLen at hcm
  by_cases hs : l.length < 2
  · have HF := Lib.hid (cad_short l hs)
    clear hA
    go_enter Try.func22, Try.ntmps22
    go_wp2
    go_ret
    exact ⟨ret_int HF.out.symm, Below.refl _ _⟩
  · obtain ⟨m, hm⟩ : ∃ m, l.length = m + 2 := ⟨l.length - 2, by omega⟩
    obtain ⟨b, off, rfl, hcc⟩ := hA (by omega)
    have p0 := int_at hcc m (by omega)
    have q0 := int_at hcc (m + 1) (by omega)
    have HC := Lib.hid (cad_at l m hm)
    generalize l[m]'_ = x at *
    generalize l[m + 1]'_ = y at *
    have hi1 : ((l.length : Nat) : Int) - 2 = (m : Int) := by omega
    have hi2 : ((l.length : Nat) : Int) - 1 = (m : Int) + 1 := by omega
    have hi3 : (2 : Int) ≤ ((l.length : Nat) : Int) := by omega
    clear hA hcc
    rcases cadP_cases x y with ⟨rfl, rfl, hc⟩ | ⟨rfl, rfl, hc⟩ | ⟨rfl, rfl, hc⟩ | ⟨rfl, rfl, hc⟩ | ⟨rfl, g1, g2, g3, hc⟩ | ⟨rfl, rfl, hc⟩ | ⟨rfl, g1, g2, hc⟩ | ⟨g1, g2, g3, rfl, hc⟩ | ⟨g1, g2, g3, g4, hc⟩
    all_goals
      have HF := Lib.hid (HC.out.trans hc)
      clear hc
      go_enter Try.func22, Try.ntmps22
      go_wp2
      go_ret
      exact ⟨ret_int HF.out.symm, by (repeat' (first | (with_reducible exact Below.refl _ _) | (with_reducible refine Below.setCell ?_ ?_ _) | (with_reducible refine Below.alloc ?_ ?_ _) | (with_reducible refine Below.drew ?_) | (with_reducible refine below_drewN ?_ _) | (with_reducible refine Below.trans ?_ (Below.mono (by with_reducible assumption) ?_)) | omega | (simp only [size_alloc', size_setCell', size_drew', size_drewN'] at *; omega)))⟩
theorem walk_FnExactCadenceOf (w : World) (v : Value) (l : List Int) (h : Rd w v 1 l.length (intCells l)) (hg : ∀ a ∈ l, I64 a) :
    Calls Try.prog 4 #[v] w fun e w' => e = .returned (.bool true) ∧ Below w.heap.size w w' := by
  have h' := Lib.hid h
  obtain ⟨_, A, c, rfl, hnc, hcm, hA⟩ := h
  unfold maxLen at hcm
  clear hA
  by_cases hn : l.length ≤ 1048576
  · have S2 := Below.refl w.heap.size w
    go_enter Try.func4, Try.ntmps4
    go_wp2_with fail
    (go_at_call 19; (with_reducible refine (c_toIntS _ l _ (h'.out.below (Nat.le_refl _) S2) hn).mono ?_); rintro e w2 ⟨v2, rfl, hown2, hb2⟩; have S2 := (S2.trans (hb2.mono S2.size)))
    have hr2 := Rd.of_own hown2
    go_wp2_with fail
    (go_at_call 22; (with_reducible refine (c_sCadenceOf _ l _ hr2).mono ?_); rintro e w4 ⟨rfl, hb4⟩; have S2 := (S2.trans (hb4.mono S2.size)))
    go_wp2_with fail
    (go_at_call 19; (with_reducible refine (c_toIntS _ l _ (h'.out.below (Nat.le_refl _) S2) hn).mono ?_); rintro e w5 ⟨v5, rfl, hown5, hb5⟩; have S2 := (S2.trans (hb5.mono S2.size)))
    have hr5 := Rd.of_own hown5
    go_wp2_with fail
    (go_at_call 23; (with_reducible refine (c_CadenceOf _ l _ hr5).mono ?_); rintro e w7 ⟨rfl, hb7⟩; have S2 := (S2.trans (hb7.mono S2.size)))
    have hr7 := hr5.below (Nat.le_refl _) hb7
    go_wp2_with fail
    (go_at_call 19; (with_reducible refine (c_toIntS _ l _ (h'.out.below (Nat.le_refl _) S2) hn).mono ?_); rintro e w8 ⟨v8, rfl, hown8, hb8⟩; have S2 := (S2.trans (hb8.mono S2.size)))
    have hr8 := hr7.below (Nat.le_refl _) hb8
    have hE : decide (l = l) = true := by simp
    go_wp2_with fail
    (go_at_call 21; (with_reducible refine (c_eqIntS _ _ l l _ hr8 (Rd.of_own hown8)).mono ?_); rintro e w9 ⟨rfl, hb9⟩; have S2 := (S2.trans (hb9.mono S2.size)))
    go_wp2
    go_ret
    exact ⟨rfl, S2⟩
  · go_enter Try.func4, Try.ntmps4
    go_wp2
    go_ret
    exact ⟨rfl, Below.refl _ _⟩
end Go.Proofs.Ytpngjofplbnkjaa
