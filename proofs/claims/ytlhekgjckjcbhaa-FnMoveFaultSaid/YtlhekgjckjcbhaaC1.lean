/- arePitches; StackFault on both sides. Conditions: none. -/
import Derived.Test.YtlhekgjckjcbhaaC0
import Derived.Test.YtlhekgjckjcbhaaN3
namespace Go.Proofs.Ytlhekgjckjcbhaa
open Go.RowKit
set_option linter.unusedSimpArgs false
set_option linter.unusedVariables false
set_option maxHeartbeats 8000000
def arePits (l : List Pit) (a b : Int) : Bool := inB l.length a b && l.all pitchValid
theorem arePits_iff {l : List Pit} {a b : Int} : arePits l a b = true ↔ (a ≤ l.length ∧ l.length ≤ b) ∧ ∀ i (h : i < l.length), pitchValid l[i] = true := by
  unfold arePits
  rw [Bool.and_eq_true, inB_iff, List.all_eq_true]
  constructor
  · rintro ⟨h1, h2⟩; exact ⟨h1, fun i h => h2 _ (List.getElem_mem h)⟩
  · rintro ⟨h1, h2⟩
    refine ⟨h1, fun x hx => ?_⟩
    obtain ⟨i, hi, rfl⟩ := List.getElem_of_mem hx
    exact h2 i hi
theorem arePits_bad {l : List Pit} {a b : Int} {i : Nat} (h : i < l.length) (hv : pitchValid l[i] = false) : arePits l a b = false := by
  cases ha : arePits l a b
  · rfl
  · rw [(arePits_iff.1 ha).2 i h] at hv; cases hv
theorem c_arePitches (v : Value) (ns : List Pit) (a b : Int) (w : World) (h : Rd w v 3 ns.length (pitCells ns)) :
    Calls Try.prog 39 #[v, .int .i64 a, .int .i64 b] w fun e w' => e = .returned (.bool (arePits ns a b)) ∧ Below w.heap.size w w' := by
  obtain ⟨_, A, c, rfl, hnc, hcm, hA⟩ := h
  unfold maxLen at hcm
  cases hin : inB (ns.length : Int) a b
  · have HV := Lib.hid (show arePits ns a b = false by unfold arePits; rw [hin]; rfl)
    clear hA
    go_enter Try.func39, Try.ntmps39
    go_wp2_with (go_at_call 41; refine (c_within _ _ _ _).mono ?_; rintro e w' ⟨rfl, rfl⟩)
    go_ret
    exact ⟨ret_bool HV.out.symm, Below.refl _ _⟩
  · obtain ⟨hi1, hi2⟩ := inB_iff.1 hin
    go_enter Try.func39, Try.ntmps39
    go_wp2_with (go_at_call 41; refine (c_within _ _ _ _).mono ?_; rintro e w' ⟨rfl, rfl⟩)
    go_loopw [17] (fun i wr => ∃ k : Nat, k ≤ ns.length ∧ i = .int .i64 k ∧ Below w.heap.size w wr ∧ ∀ i (h : i < ns.length), i < k → pitchValid ns[i] = true) (fun i _ => ns.length - (intOf i).toNat)
    case atStart => exact ⟨0, Nat.zero_le _, rfl, Below.refl _ _, fun i _ hi => absurd hi (by omega)⟩
    case round =>
      obtain ⟨k, hk, rfl, hbl, hok⟩ := hrel
      have HOK := Lib.hid hok
      have hz := hbl.size
      clear hok
      by_cases hlt : k < ns.length
      · obtain ⟨b1, off, rfl, hcc⟩ := hA (by omega)
        obtain ⟨p0, p1, p2⟩ := pit_at (fun j u hu => below_cell hbl (hcc j u hu)) k hlt
        have HBad := Lib.hid (fun hv => arePits_bad (a := a) (b := b) hlt hv)
        have HSt := Lib.hid (fun (hv : pitchValid ns[k] = true) => show ∀ i (h : i < ns.length), i < k + 1 → pitchValid ns[i] = true from fun i h hi => by
          rcases Nat.lt_succ_iff_lt_or_eq.1 hi with h3 | rfl
          · exact HOK.out i h h3
          · exact hv)
        generalize ns[k] = x at *
        obtain ⟨xs, xa, xo⟩ := x
        clear hA hcc
        cases hv : pitchValid ⟨xs, xa, xo⟩
        · have HF := Lib.hid (HBad.out hv)
          go_wp2_with (go_at_call 45; (with_reducible refine (c_PitchValid ⟨xs, xa, xo⟩ _).mono ?_); rintro e wq ⟨rfl, hbq⟩; have hzq := hbq.size; (try simp only [size_alloc', size_setCell', size_drew', size_drewN'] at hzq); skip)
          go_ret
          exact ⟨ret_bool HF.out.symm, by (repeat' (first | (with_reducible exact Below.refl _ _) | (with_reducible refine Below.setCell ?_ ?_ _) | (with_reducible refine Below.alloc ?_ ?_ _) | (with_reducible refine Below.drew ?_) | (with_reducible refine below_drewN ?_ _) | (with_reducible refine Below.trans ?_ (Below.mono (by with_reducible assumption) ?_)) | omega | (simp only [size_alloc', size_setCell', size_drew', size_drewN'] at *; omega)))⟩
        · have HF := Lib.hid (HSt.out hv)
          go_wp2_with (go_at_call 45; (with_reducible refine (c_PitchValid ⟨xs, xa, xo⟩ _).mono ?_); rintro e wq ⟨rfl, hbq⟩; have hzq := hbq.size; (try simp only [size_alloc', size_setCell', size_drew', size_drewN'] at hzq); skip)
          go_roundw
          case rel => exact ⟨k + 1, by omega, by go_num, by (repeat' (first | (with_reducible exact Below.refl _ _) | (with_reducible refine Below.setCell ?_ ?_ _) | (with_reducible refine Below.alloc ?_ ?_ _) | (with_reducible refine Below.drew ?_) | (with_reducible refine below_drewN ?_ _) | (with_reducible refine Below.trans ?_ (Below.mono (by with_reducible assumption) ?_)) | omega | (simp only [size_alloc', size_setCell', size_drew', size_drewN'] at *; omega))), HF.out⟩
          case measure => simp [intOf]; omega
      · clear hA
        go_wp2
        go_ret
        exact ⟨ret_bool (arePits_iff.2 ⟨⟨hi1, hi2⟩, fun i h => HOK.out i h (by omega)⟩).symm, hbl⟩
def pk (ns : List Pit) (i : Nat) : Int := keyOf (ns.getD i ⟨0, 0, 0⟩)
theorem pk_get {ns : List Pit} {i : Nat} (h : i < ns.length) : pk ns i = keyOf ns[i] := by unfold pk; simp [h]
def loK (i : Nat) : Int := if i = 0 then 28 else if i = 1 then 36 else if i = 2 then 43 else 48
def hiK (i : Nat) : Int := if i = 0 then 48 else if i = 1 then 55 else if i = 2 then 62 else 67
def stackF (ns : List Pit) : Int :=
  if arePits ns 4 4 = true then
    if pk ns 1 < pk ns 0 ∨ pk ns 2 < pk ns 1 ∨ pk ns 3 < pk ns 2 then 2
    else if 12 < pk ns 2 - pk ns 1 ∨ 12 < pk ns 3 - pk ns 2 then 3
    else if inB (pk ns 0) (loK 0) (hiK 0) = false ∨ inB (pk ns 1) (loK 1) (hiK 1) = false ∨ inB (pk ns 2) (loK 2) (hiK 2) = false ∨ inB (pk ns 3) (loK 3) (hiK 3) = false then 4 else 0
  else 1
theorem stackF_1 {ns : List Pit} (h : arePits ns 4 4 = false) : stackF ns = 1 := by unfold stackF; rw [if_neg (by rw [h]; simp)]
theorem stackF_2 {ns : List Pit} (h : arePits ns 4 4 = true) {j : Nat} (hj : j < 3) (hb : pk ns (j + 1) < pk ns j) : stackF ns = 2 := by
  unfold stackF
  rw [if_pos h, if_pos]
  have : j = 0 ∨ j = 1 ∨ j = 2 := by omega
  rcases this with rfl | rfl | rfl
  · exact .inl hb
  · exact .inr (.inl hb)
  · exact .inr (.inr hb)
theorem stackF_no2 {ns : List Pit} (h : ∀ j, j < 3 → ¬ pk ns (j + 1) < pk ns j) : ¬ (pk ns 1 < pk ns 0 ∨ pk ns 2 < pk ns 1 ∨ pk ns 3 < pk ns 2) := by
  rintro (h1 | h1 | h1)
  · exact h 0 (by omega) h1
  · exact h 1 (by omega) h1
  · exact h 2 (by omega) h1
theorem stackF_3 {ns : List Pit} (h : arePits ns 4 4 = true) (h2 : ∀ j, j < 3 → ¬ pk ns (j + 1) < pk ns j) {j : Nat} (hj : 1 ≤ j ∧ j < 3) (hb : 12 < pk ns (j + 1) - pk ns j) : stackF ns = 3 := by
  unfold stackF
  rw [if_pos h, if_neg (stackF_no2 h2), if_pos]
  have : j = 1 ∨ j = 2 := by omega
  rcases this with rfl | rfl
  · exact .inl hb
  · exact .inr hb
theorem stackF_no3 {ns : List Pit} (h : ∀ j, 1 ≤ j → j < 3 → ¬ 12 < pk ns (j + 1) - pk ns j) : ¬ (12 < pk ns 2 - pk ns 1 ∨ 12 < pk ns 3 - pk ns 2) := by
  rintro (h1 | h1)
  · exact h 1 (by omega) (by omega) h1
  · exact h 2 (by omega) (by omega) h1
theorem stackF_4 {ns : List Pit} (h : arePits ns 4 4 = true) (h2 : ∀ j, j < 3 → ¬ pk ns (j + 1) < pk ns j) (h3 : ∀ j, 1 ≤ j → j < 3 → ¬ 12 < pk ns (j + 1) - pk ns j) {j : Nat} (hj : j < 4) (hb : inB (pk ns j) (loK j) (hiK j) = false) : stackF ns = 4 := by
  unfold stackF
  rw [if_pos h, if_neg (stackF_no2 h2), if_neg (stackF_no3 h3), if_pos]
  have : j = 0 ∨ j = 1 ∨ j = 2 ∨ j = 3 := by omega
  rcases this with rfl | rfl | rfl | rfl
  · exact .inl hb
  · exact .inr (.inl hb)
  · exact .inr (.inr (.inl hb))
  · exact .inr (.inr (.inr hb))
theorem stackF_0 {ns : List Pit} (h : arePits ns 4 4 = true) (h2 : ∀ j, j < 3 → ¬ pk ns (j + 1) < pk ns j) (h3 : ∀ j, 1 ≤ j → j < 3 → ¬ 12 < pk ns (j + 1) - pk ns j) (h4 : ∀ j, j < 4 → inB (pk ns j) (loK j) (hiK j) = true) : stackF ns = 0 := by
  unfold stackF
  rw [if_pos h, if_neg (stackF_no2 h2), if_neg (stackF_no3 h3), if_neg]
  rw [h4 0 (by omega), h4 1 (by omega), h4 2 (by omega), h4 3 (by omega)]
  simp
set_option maxRecDepth 100000 in
theorem c_voiceRange (i : Nat) (hi : i < 4) (w : World) :
    Calls Try.prog 40 #[.int .i64 i] w fun e w' => e = .returned (.tuple #[.int .i64 (loK i), .int .i64 (hiK i)]) ∧ Below w.heap.size w w' := by
  have h4 : i = 0 ∨ i = 1 ∨ i = 2 ∨ i = 3 := by omega
  have hx : ∀ w, (Instr.index 95 (.agg #[.int .i64 28, .int .i64 48, .int .i64 36, .int .i64 55, .int .i64 43, .int .i64 62, .int .i64 48, .int .i64 67]) (.int .i64 i)).run Try.prog w = .ok (.agg #[.int .i64 (loK i), .int .i64 (hiK i)]) w := by
    rcases h4 with rfl | rfl | rfl | rfl
    all_goals (intro w; kernel_rfl)
  clear h4
  go_enter Try.func40, Try.ntmps40
  go_wp2_with fail
  go_quiet (fail)
  go_wp2
  go_ret2
  exact ⟨rfl, by (repeat' (first | (with_reducible exact Below.refl _ _) | (with_reducible refine Below.setCell ?_ ?_ _) | (with_reducible refine Below.alloc ?_ ?_ _) | (with_reducible refine Below.drew ?_) | (with_reducible refine below_drewN ?_ _) | (with_reducible refine Below.trans ?_ (Below.mono (by with_reducible assumption) ?_)) | omega | (simp only [size_alloc', size_setCell', size_drew', size_drewN'] at *; omega)))⟩
end Go.Proofs.Ytlhekgjckjcbhaa
