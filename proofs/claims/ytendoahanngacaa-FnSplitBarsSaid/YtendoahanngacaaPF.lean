/- Filled bars: plain laws. Conditions: none. -/
import Derived.Test.YtendoahanngacaaB8
namespace Go.Proofs.Ytendoahanngacaa
set_option linter.unusedSimpArgs false
set_option linter.unusedVariables false
set_option maxHeartbeats 1000000
def fillRest (ns : List Nt) (m : Met) : Int := barCount ns m * barTicks m - sumT ns
def fillV (ns : List Nt) (m : Met) : Option (List Nt) :=
  if voiceValid ns = true ∧ meterValid m = true then
    if fillRest ns m = 0 then some ns
    else if 768 < fillRest ns m ∨ ns.length = 60 then none else some (ns ++ [⟨true, ⟨0, 0, 0⟩, fillRest ns m, false⟩])
  else none
theorem ceil_bd {t b : Int} (h0 : 0 ≤ t) (hb : 0 < b) : 0 ≤ (t + b - 1) / b * b - t ∧ (t + b - 1) / b * b - t < b := by
  have h1 := Int.ediv_mul_le (t + b - 1) (show b ≠ 0 by omega)
  have h2 := Int.lt_ediv_add_one_mul_self (t + b - 1) hb
  rw [Int.add_mul, Int.one_mul] at h2
  generalize (t + b - 1) / b * b = z at *
  omega
theorem ceil_self {q b : Int} (hb : 0 < b) : (q * b + b - 1) / b = q := by
  rw [show q * b + b - 1 = (b - 1) + q * b by omega, Int.add_mul_ediv_right _ _ (show b ≠ 0 by omega), Int.ediv_eq_zero_of_lt (by omega) (by omega)]
  omega
theorem barCount_val {ns : List Nt} {m : Met} (h : voiceValid ns = true) (hm : meterValid m = true) : barCount ns m = (sumT ns + barTicks m - 1) / barTicks m := by
  unfold barCount
  rw [if_pos ⟨h, hm⟩]
theorem fillRest_bd {ns : List Nt} {m : Met} (h : voiceValid ns = true) (hm : meterValid m = true) : 0 ≤ fillRest ns m ∧ fillRest ns m < barTicks m := by
  obtain ⟨k1, k2, -, -, -, -⟩ := bar_bd hm
  obtain ⟨s1, s2⟩ := sumT_valid h
  unfold fillRest
  rw [barCount_val h hm]
  exact ceil_bd s1 (by omega)
theorem barCount_bd {ns : List Nt} {m : Met} (h : voiceValid ns = true) (hm : meterValid m = true) : 0 ≤ barCount ns m ∧ barCount ns m ≤ 50000 ∧ 0 ≤ barCount ns m * barTicks m ∧ barCount ns m * barTicks m ≤ 50000 := by
  obtain ⟨k1, k2, -, -, -, -⟩ := bar_bd hm
  obtain ⟨s1, s2⟩ := sumT_valid h
  have h3 := ceil_bd s1 (show 0 < barTicks m by omega)
  rw [barCount_val h hm]
  have h4 : 0 ≤ (sumT ns + barTicks m - 1) / barTicks m := Int.ediv_nonneg (by omega) (by omega)
  have h5 : (sumT ns + barTicks m - 1) / barTicks m ≤ (sumT ns + barTicks m - 1) / barTicks m * barTicks m := by
    have := Int.mul_le_mul_of_nonneg_left (show 1 ≤ barTicks m by omega) h4
    omega
  generalize (sumT ns + barTicks m - 1) / barTicks m = q at *
  generalize q * barTicks m = z at *
  omega
theorem barCount_law {ns : List Nt} {m : Met} (h : voiceValid ns = true) (hm : meterValid m = true) :
    sumT ns ≤ barCount ns m * barTicks m ∧ ((barCount ns m = 0 ∧ sumT ns = 0) ∨ (barCount ns m - 1) * barTicks m < sumT ns) := by
  obtain ⟨k1, k2, -, -, -, -⟩ := bar_bd hm
  obtain ⟨s1, s2⟩ := sumT_valid h
  have h3 := ceil_bd s1 (show 0 < barTicks m by omega)
  rw [barCount_val h hm]
  refine ⟨by omega, ?_⟩
  by_cases h0 : sumT ns = 0
  · left
    refine ⟨?_, h0⟩
    rw [h0]
    exact Int.ediv_eq_zero_of_lt (by omega) (by omega)
  · right
    rw [Int.sub_mul, Int.one_mul]
    omega
theorem okAt_snoc {ns : List Nt} {r : Nt} {i : Nat} (hi : i < ns.length) (h : okAt ns i = true) : okAt (ns ++ [r]) i = true := by
  have hi' : i < (ns ++ [r]).length := by simp; omega
  unfold okAt at h ⊢
  rw [List.getElem?_eq_getElem hi] at h
  rw [List.getElem?_append_left hi, List.getElem?_eq_getElem hi]
  dsimp only at h ⊢
  by_cases h1 : i + 1 < ns.length
  · rw [List.getElem?_append_left h1]; exact h
  · rw [List.getElem?_eq_none (show ns.length ≤ i + 1 by omega)] at h
    simp only [Bool.or_false, Bool.and_eq_true] at h
    rw [h.1, h.2]
    rfl
theorem valid_rest {ns : List Nt} {l : Int} (h : voiceValid ns = true) (hl : ns.length < 60) (h0 : 0 < l) (h1 : l ≤ 768) : voiceValid (ns ++ [⟨true, ⟨0, 0, 0⟩, l, false⟩]) = true := by
  obtain ⟨h60, hok⟩ := voiceValid_iff.1 h
  refine voiceValid_iff.2 ⟨by simp; omega, fun i hi => ?_⟩
  by_cases hi' : i < ns.length
  · exact okAt_snoc hi' (hok i hi')
  · have : i = ns.length := by simp at hi; omega
    subst this
    unfold okAt
    rw [List.getElem?_append_right (Nat.le_refl _)]
    have hb : inB l 1 768 = true := by rw [inB_iff]; omega
    simp [noteValid, hb, pitEq, Pit.zero]
theorem sumT_rest (ns : List Nt) (l : Int) : sumT (ns ++ [⟨true, ⟨0, 0, 0⟩, l, false⟩]) = sumT ns + l := by rw [sumT_append]; simp [sumT]
theorem fillV_law {ns x : List Nt} {m : Met} (h : fillV ns m = some x) :
    voiceT x = barCount ns m * barTicks m ∧ fillV x m = some x ∧ ns.length ≤ x.length ∧ x.length ≤ ns.length + 1 ∧ voiceValid ns = true ∧ meterValid m = true := by
  have h0 := h
  unfold fillV at h
  split at h
  · rename_i hv
    obtain ⟨hv, hm⟩ := hv
    obtain ⟨k1, k2, -, -, -, -⟩ := bar_bd hm
    have hr := fillRest_bd hv hm
    split at h
    · rename_i hz
      cases h
      refine ⟨?_, h0, Nat.le_refl _, by omega, hv, hm⟩
      unfold voiceT
      rw [if_pos hv]
      unfold fillRest at hz
      omega
    · rename_i hz
      split at h
      · cases h
      · rename_i hb
        cases h
        have h60 := (voiceValid_iff.1 hv).1
        have hvx := valid_rest hv (show ns.length < 60 by omega) (show 0 < fillRest ns m by omega) (by omega)
        have hs : sumT (ns ++ [⟨true, ⟨0, 0, 0⟩, fillRest ns m, false⟩]) = barCount ns m * barTicks m := by
          rw [sumT_rest]
          unfold fillRest
          omega
        have hz2 : fillRest (ns ++ [⟨true, ⟨0, 0, 0⟩, fillRest ns m, false⟩]) m = 0 := by
          rw [fillRest, barCount_val hvx hm, hs, ceil_self (by omega)]
          omega
        refine ⟨?_, ?_, by simp, by simp, hv, hm⟩
        · unfold voiceT
          rw [if_pos hvx, hs]
        · rw [fillV, if_pos ⟨hvx, hm⟩, if_pos hz2]
  · cases h
end Go.Proofs.Ytendoahanngacaa
