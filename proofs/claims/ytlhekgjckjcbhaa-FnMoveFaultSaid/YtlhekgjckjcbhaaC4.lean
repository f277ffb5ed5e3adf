/- MoveFault on both sides. Conditions: none. -/
import Derived.Test.YtlhekgjckjcbhaaC3
namespace Go.Proofs.Ytlhekgjckjcbhaa
open Go.RowKit
set_option linter.unusedSimpArgs false
set_option linter.unusedVariables false
set_option maxHeartbeats 16000000
theorem pit_get {W : World} {b off : Nat} {ns : List Pit} (hc : ∀ j u, (pitCells ns)[j]? = some u → W.cell? ⟨b, off + j, none⟩ = some u) (j : Nat) (h : j < ns.length) :
    ∃ x : Pit, pk ns j = keyOf x ∧ W.cell? ⟨b, off + j * 3, none⟩ = some (.int .i64 x.step) ∧ W.cell? ⟨b, off + j * 3 + 1, none⟩ = some (.int .i64 x.alter) ∧ W.cell? ⟨b, off + j * 3 + 2, none⟩ = some (.int .i64 x.octave) :=
  ⟨ns[j], pk_get h, pit_at hc j h⟩
theorem parB_yes {a b : List Pit} {d : Int} (h : Par a b d) : parB a b d = true := by unfold parB; simp [h]
theorem parB_no {a b : List Pit} {d : Int} (h : ¬ Par a b d) : parB a b d = false := by unfold parB; simp [h]
theorem parB_iff {a b : List Pit} {d : Int} : parB a b d = true ↔ Par a b d := by unfold parB; simp
theorem parB_not {a b : List Pit} {d : Int} : parB a b d = false ↔ ¬ Par a b d := by unfold parB; simp
theorem mod_law {n b : Int} (hb : 0 < b) : (n.tmod b + b).tmod b = n % b := by
  have h1 := Int.tmod_lt_of_pos n hb
  have h2 : -b < n.tmod b := by
    have := Int.lt_tmod_of_pos n hb
    omega
  rw [Int.tmod_eq_emod_of_nonneg (by omega), Int.add_emod_right]
  rw [Int.tmod_eq_emod]
  split
  · rw [show ((0 : Nat) : Int) = 0 from rfl, Int.sub_zero, Int.emod_emod]
  · rw [Int.sub_emod]
    have : ((Int.natAbs b : Int)) % b = 0 := by rw [Int.natAbs_of_nonneg (by omega)]; exact Int.emod_self
    rw [this, Int.sub_zero, Int.emod_emod, Int.emod_emod]
theorem c_modulo (n b : Int) (w : World) (h1 : -1000000 ≤ n) (h2 : n ≤ 1000000) (h3 : 0 < b) (h4 : b ≤ 1000) :
    Calls Try.prog 74 #[.int .i64 n, .int .i64 b] w fun e w' => e = .returned (.int .i64 (n % b)) ∧ w = w' := by
  have HM := Lib.hid (mod_law (n := n) h3)
  have t1 := Int.tmod_lt_of_pos n h3
  have t2 : -b < n.tmod b := by
    have := Int.lt_tmod_of_pos n h3
    omega
  have hb0 : b ≠ 0 := by omega
  obtain ⟨r, hr⟩ : ∃ r, n.tmod b = r := ⟨_, rfl⟩
  rw [hr] at t1 t2
  have HM := Lib.hid (show (r + b).tmod b = n % b by rw [← hr]; exact HM.out)
  have HRN := Lib.hid (show r % b = n % b by have := HM.out; rwa [Int.tmod_eq_emod_of_nonneg (by omega), Int.add_emod_right] at this)
  have q0 : 0 ≤ (r + b).tmod b := by rw [HM.out]; exact Int.emod_nonneg _ hb0
  have q1 : (r + b).tmod b < b := by rw [HM.out]; exact Int.emod_lt_of_pos _ h3
  go_enter Try.func74, Try.ntmps74
  go_wp2
  go_ret
  exact ⟨ret_int (by first | exact HM.out | (simp only [Int.add_emod_right]; exact HRN.out) | exact HRN.out), rfl⟩
theorem c_distance (a b : Int) (w : World) (h1 : -1000 ≤ a ∧ a ≤ 1000) (h2 : -1000 ≤ b ∧ b ≤ 1000) :
    Calls Try.prog 50 #[.int .i64 a, .int .i64 b] w fun e w' => e = .returned (.int .i64 (if a - b ≤ b - a then b - a else a - b)) ∧ w = w' := by
  obtain ⟨h11, h12⟩ := h1
  obtain ⟨h21, h22⟩ := h2
  by_cases h : a - b ≤ b - a
  · have HV := Lib.hid (show (if a - b ≤ b - a then b - a else a - b) = b - a from if_pos h)
    have hmx : max (a - b) (b - a) = b - a := by omega
    go_enter Try.func50, Try.ntmps50
    go_wp2
    all_goals
      go_ret
      exact ⟨ret_int (by first | rfl | omega | (rw [HV.out])), rfl⟩
  · have HV := Lib.hid (show (if a - b ≤ b - a then b - a else a - b) = a - b from if_neg h)
    have hmx : max (a - b) (b - a) = a - b := by omega
    go_enter Try.func50, Try.ntmps50
    go_wp2
    all_goals
      go_ret
      exact ⟨ret_int (by first | rfl | omega | (rw [HV.out])), rfl⟩
end Go.Proofs.Ytlhekgjckjcbhaa
