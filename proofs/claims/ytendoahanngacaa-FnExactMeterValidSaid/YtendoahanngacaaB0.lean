/- Contracts of the smallest functions on numbers, pitches. Conditions: none. -/
import Derived.Test.YtendoahanngacaaProg
import Derived.WalkKit
import Derived.WalkSpells
import Derived.WalkLawsBesides
import Derived.Lib.Hide
import Derived.BigQuiet
import Derived.Deep.QuietTactic
import Derived.Deep.RegionHeld3
import Derived.Deep.DeepCutAuto
import Derived.Deep.LoopGhost
import Derived.Deep.AppendLies
import Derived.Deep.Light
import Derived.Maps.AppendAt
namespace Go.Proofs.Ytendoahanngacaa
open Go.RowKit
set_option linter.unusedSimpArgs false
set_option linter.unusedVariables false

theorem ret_bool {a b : Bool} (h : a = b) : Ending.returned (.bool a) = .returned (.bool b) := by rw [h]
theorem ret_int {a b : Int} (h : a = b) : Ending.returned (.int .i64 a) = .returned (.int .i64 b) := by rw [h]
theorem bel1 (w : World) (o : Obj) : Below w.heap.size w (w.alloc o) := (Below.refl _ _).alloc (Nat.le_refl _) _
theorem bcell {W w1 : World} (hb : Below W.heap.size W w1) : (∀ b o, b < W.heap.size → w1.cell? ⟨b, o, none⟩ = W.cell? ⟨b, o, none⟩) ∧ (∀ b o, b < W.heap.size → w1.frozen? ⟨b, o, none⟩ = W.frozen? ⟨b, o, none⟩) :=
  ⟨fun b o h => hb.cell (p := ⟨b, o, none⟩) h, fun b o h => hb.frozen (p := ⟨b, o, none⟩) h⟩

theorem keep_cps {B b : Nat} {W w1 : World} {G : Prop} (hb : Below B W w1) (h : b < B)
    (k : (∀ o, w1.cell? ⟨b, o, none⟩ = W.cell? ⟨b, o, none⟩) → (∀ o, w1.frozen? ⟨b, o, none⟩ = W.frozen? ⟨b, o, none⟩) → G) : G :=
  k (fun o => hb.cell (p := ⟨b, o, none⟩) h) (fun o => hb.frozen (p := ⟨b, o, none⟩) h)
theorem size_alloc' (w : World) (o : Obj) : (w.alloc o).heap.size = w.heap.size + 1 := by simp
theorem size_setCell' (w : World) (a : Addr) (v : Value) : (w.setCell a v).heap.size = w.heap.size := by simp [World.setCell]
theorem size_drew' (w : World) : w.drew.heap.size = w.heap.size := rfl
theorem size_drewN' (w : World) (n : Nat) : (w.drewN n).heap.size = w.heap.size := rfl
theorem below_drewN {B : Nat} {a w : World} (h : Below B a w) (n : Nat) : Below B a (w.drewN n) := ⟨h.os, h.tape, h.output, h.size, h.block⟩
theorem quiet_add_left {P : Program} {f : FuncId} {args : Array Value} {w : World} {a n : Nat} {v : Value}
    (h : Calls P f args (w.drewN (a + n)) fun e w' => e = .returned v ∧ w.drewN (a + n) = w') :
    Calls P f args (w.drewN (a + n)) fun e w'' => e = .returned v ∧ ∃ m, w'' = w.drewN (a + m) :=
  h.mono fun _ _ ⟨he, hm⟩ => ⟨he, n, hm.symm⟩
theorem quiet_left {P : Program} {f : FuncId} {args : Array Value} {w : World} {n : Nat} {v : Value}
    (h : Calls P f args (w.drewN n) fun e w' => e = .returned v ∧ w.drewN n = w') : Calls P f args (w.drewN n) fun e w'' => e = .returned v ∧ ∃ m, w'' = w.drewN m :=
  h.mono fun _ _ ⟨he, hm⟩ => ⟨he, n, hm.symm⟩

def inB (n lo hi : Int) : Bool := decide (lo ≤ n) && decide (n ≤ hi)
theorem inB_iff {n lo hi : Int} : inB n lo hi = true ↔ lo ≤ n ∧ n ≤ hi := by simp [inB]
theorem inB_not {n lo hi : Int} : inB n lo hi = false ↔ n < lo ∨ hi < n := by
  rw [← Bool.not_eq_true, inB_iff]; omega

theorem c_within (n lo hi : Int) (w : World) :
    Calls Try.prog 47 #[.int .i64 n, .int .i64 lo, .int .i64 hi] w fun e w' => e = .returned (.bool (inB n lo hi)) ∧ w = w' := by
  by_cases h1 : lo ≤ n <;> by_cases h2 : n ≤ hi
  all_goals
    go_enter Try.func47, Try.ntmps47
    go_wp2
    go_ret
    simp [inB, h1, h2]
theorem c_l1In (n lo hi : Int) (w : World) :
    Calls Try.prog 46 #[.int .i64 n, .int .i64 lo, .int .i64 hi] w fun e w' => e = .returned (.bool (inB n lo hi)) ∧ w = w' := by
  by_cases h1 : lo ≤ n <;> by_cases h2 : n ≤ hi
  all_goals
    go_enter Try.func46, Try.ntmps46
    go_wp2
    go_ret
    simp [inB, h1, h2]
structure Pit where
  step : Int
  alter : Int
  octave : Int
abbrev Pit.v (p : Pit) : Value := .agg #[.int .i64 p.step, .int .i64 p.alter, .int .i64 p.octave]
def pitchValid (p : Pit) : Bool := inB p.step 0 6 && inB p.alter (-2) 2 && inB p.octave 0 8
theorem c_PitchValid (p : Pit) (w : World) :
    Calls Try.prog 61 #[p.v] w fun e w' => e = .returned (.bool (pitchValid p)) ∧ Below w.heap.size w w' := by
  go_enter Try.func61, Try.ntmps61
  go_wp2_with (go_at_call 47; refine (c_within _ _ _ _).mono ?_; rintro e w' ⟨rfl, rfl⟩)
  all_goals
    go_ret
    exact ⟨by simp [pitchValid, *], bel1 _ _⟩
theorem c_sPitchValid (p : Pit) (w : World) :
    Calls Try.prog 67 #[p.v] w fun e w' => e = .returned (.bool (pitchValid p)) ∧ Below w.heap.size w w' := by
  go_enter Try.func67, Try.ntmps67
  go_wp2_with (go_at_call 46; refine (c_l1In _ _ _ _).mono ?_; rintro e w' ⟨rfl, rfl⟩)
  all_goals
    go_ret
    exact ⟨by simp [pitchValid, *], bel1 _ _⟩
def stepH (s : Int) : Int := if s = 0 then 0 else if s = 1 then 2 else if s = 2 then 4 else if s = 3 then 5 else if s = 4 then 7 else if s = 5 then 9 else 11
theorem c_stepHalves (s : Int) (w : World) (h0 : 0 ≤ s) (h6 : s ≤ 6) :
    Calls Try.prog 62 #[.int .i64 s] w fun e w' => e = .returned (.int .i64 (stepH s)) ∧ w = w' := by
  have hs : s = 0 ∨ s = 1 ∨ s = 2 ∨ s = 3 ∨ s = 4 ∨ s = 5 ∨ s = 6 := by omega
  have hi : ∀ w, (Instr.index 83 (.agg #[.int .i64 0, .int .i64 2, .int .i64 4, .int .i64 5, .int .i64 7, .int .i64 9, .int .i64 11]) (.int .i64 s)).run Try.prog w = .ok (.int .i64 (stepH s)) w := by
    rcases hs with rfl | rfl | rfl | rfl | rfl | rfl | rfl
    all_goals (intro w; kernel_rfl)
  go_enter Try.func62, Try.ntmps62
  go_wp2
  go_ret
  exact ⟨rfl, rfl⟩
def keyOf (p : Pit) : Int := if pitchValid p = true then 12 * p.octave + stepH p.step + p.alter else -100
theorem stepH_bd (s : Int) : 0 ≤ stepH s ∧ stepH s ≤ 11 := by unfold stepH; repeat' split
                                                              all_goals omega
theorem pitchValid_iff {p : Pit} : pitchValid p = true ↔ 0 ≤ p.step ∧ p.step ≤ 6 ∧ -2 ≤ p.alter ∧ p.alter ≤ 2 ∧ 0 ≤ p.octave ∧ p.octave ≤ 8 := by
  simp [pitchValid, inB, and_assoc]
theorem c_PitchKey (p : Pit) (w : World) :
    Calls Try.prog 50 #[p.v] w fun e w' => e = .returned (.int .i64 (keyOf p)) ∧ Below w.heap.size w w' := by
  cases hv : pitchValid p
  · go_enter Try.func50, Try.ntmps50
    go_wp2_with (go_at_call 61; refine (c_PitchValid _ _).mono ?_; rintro e wq ⟨rfl, hbq⟩; have hzq := hbq.size; (try simp only [size_alloc', size_setCell', size_drew', size_drewN'] at hzq); (try (refine keep_cps (b := w.heap.size) hbq ?_ ?_; (first | omega | (simp only [size_alloc', size_setCell', size_drew', size_drewN']; omega)); intro _ _)); (try (refine keep_cps (b := w.heap.size + 1) hbq ?_ ?_; (first | omega | (simp only [size_alloc', size_setCell', size_drew', size_drewN']; omega)); intro _ _)); (try (refine keep_cps (b := w.heap.size + 1 + 1) hbq ?_ ?_; (first | omega | (simp only [size_alloc', size_setCell', size_drew', size_drewN']; omega)); intro _ _)); (try (refine keep_cps (b := w.heap.size + 1 + 1 + 1) hbq ?_ ?_; (first | omega | (simp only [size_alloc', size_setCell', size_drew', size_drewN']; omega)); intro _ _)); skip)
    go_ret
    exact ⟨by simp [keyOf, hv], by (repeat' (first | exact Below.refl _ _ | (refine Below.trans ?_ (Below.mono (by assumption) ?_)) | (refine Below.alloc ?_ ?_ _) | (refine Below.setCell ?_ ?_ _) | (refine Below.drew ?_) | (refine below_drewN ?_ _) | omega | (simp only [size_alloc', size_setCell', size_drew', size_drewN'] at *; omega)))⟩
  · obtain ⟨h1, h2, h3, h4, h5, h6⟩ := pitchValid_iff.1 hv
    obtain ⟨hs0, hs1⟩ := stepH_bd p.step
    go_enter Try.func50, Try.ntmps50
    go_wp2_with (go_at_call 61; refine (c_PitchValid _ _).mono ?_; rintro e wq ⟨rfl, hbq⟩; have hzq := hbq.size; (try simp only [size_alloc', size_setCell', size_drew', size_drewN'] at hzq); (try (refine keep_cps (b := w.heap.size) hbq ?_ ?_; (first | omega | (simp only [size_alloc', size_setCell', size_drew', size_drewN']; omega)); intro _ _)); (try (refine keep_cps (b := w.heap.size + 1) hbq ?_ ?_; (first | omega | (simp only [size_alloc', size_setCell', size_drew', size_drewN']; omega)); intro _ _)); (try (refine keep_cps (b := w.heap.size + 1 + 1) hbq ?_ ?_; (first | omega | (simp only [size_alloc', size_setCell', size_drew', size_drewN']; omega)); intro _ _)); (try (refine keep_cps (b := w.heap.size + 1 + 1 + 1) hbq ?_ ?_; (first | omega | (simp only [size_alloc', size_setCell', size_drew', size_drewN']; omega)); intro _ _)); skip)
    go_quiet ((go_at_call 62; exact quiet_left (c_stepHalves _ _ h1 h2)))
    go_wp2
    go_ret
    exact ⟨by simp [keyOf, hv], by (repeat' (first | exact Below.refl _ _ | (refine Below.trans ?_ (Below.mono (by assumption) ?_)) | (refine Below.alloc ?_ ?_ _) | (refine Below.setCell ?_ ?_ _) | (refine Below.drew ?_) | (refine below_drewN ?_ _) | omega | (simp only [size_alloc', size_setCell', size_drew', size_drewN'] at *; omega)))⟩
structure Met where
  beats : Int
  unit : Int
abbrev Met.v (m : Met) : Value := .agg #[.int .i64 m.beats, .int .i64 m.unit]
def unitOk (u : Int) : Bool := u == 2 || u == 4 || u == 8 || u == 16
def meterValid (m : Met) : Bool := inB m.beats 1 12 && unitOk m.unit
theorem c_MeterValid (m : Met) (w : World) :
    Calls Try.prog 18 #[m.v] w fun e w' => e = .returned (.bool (meterValid m)) ∧ Below w.heap.size w w' := by
  obtain ⟨b, u⟩ := m
  go_enter Try.func18, Try.ntmps18
  go_wp2_with (go_at_call 47; refine (c_within _ _ _ _).mono ?_; rintro e w' ⟨rfl, rfl⟩)
  all_goals
    go_ret
    exact ⟨by simp [meterValid, unitOk, *], bel1 _ _⟩
theorem c_sMeterValid (m : Met) (w : World) :
    Calls Try.prog 16 #[m.v] w fun e w' => e = .returned (.bool (meterValid m)) ∧ Below w.heap.size w w' := by
  obtain ⟨b, u⟩ := m
  go_enter Try.func16, Try.ntmps16
  go_wp2_with (go_at_call 46; refine (c_l1In _ _ _ _).mono ?_; rintro e w' ⟨rfl, rfl⟩)
  all_goals
    go_ret
    exact ⟨by simp [meterValid, unitOk, *], bel1 _ _⟩
theorem c_toMeter (m : Met) (w : World) :
    Calls Try.prog 17 #[m.v] w fun e w' => e = .returned m.v ∧ Below w.heap.size w w' := by
  go_enter Try.func17, Try.ntmps17
  go_wp2
  exact bodyPost_ret (v := m.v) (by simp [results, Try.results17, go_sem]) rfl ⟨rfl, by (repeat' (first | exact Below.refl _ _ | (refine Below.trans ?_ (Below.mono (by assumption) ?_)) | (refine Below.alloc ?_ ?_ _) | (refine Below.setCell ?_ ?_ _) | (refine Below.drew ?_) | (refine below_drewN ?_ _) | omega | (simp only [size_alloc', size_setCell', size_drew', size_drewN'] at *; omega)))⟩
theorem meterValid_iff {m : Met} : meterValid m = true ↔ 1 ≤ m.beats ∧ m.beats ≤ 12 ∧ (m.unit = 2 ∨ m.unit = 4 ∨ m.unit = 8 ∨ m.unit = 16) := by
  simp [meterValid, inB, unitOk, and_assoc, or_assoc]
def barTicks (m : Met) : Int := if meterValid m = true then m.beats * 192 / m.unit else -1
theorem c_BarTicks (m : Met) (w : World) :
    Calls Try.prog 20 #[m.v] w fun e w' => e = .returned (.int .i64 (barTicks m)) ∧ Below w.heap.size w w' := by
  cases hv : meterValid m
  · go_enter Try.func20, Try.ntmps20
    go_wp2_with (go_at_call 18; refine (c_MeterValid _ _).mono ?_; rintro e wq ⟨rfl, hbq⟩; have hzq := hbq.size; (try simp only [size_alloc', size_setCell', size_drew', size_drewN'] at hzq); (try (refine keep_cps (b := w.heap.size) hbq ?_ ?_; (first | omega | (simp only [size_alloc', size_setCell', size_drew', size_drewN']; omega)); intro _ _)); (try (refine keep_cps (b := w.heap.size + 1) hbq ?_ ?_; (first | omega | (simp only [size_alloc', size_setCell', size_drew', size_drewN']; omega)); intro _ _)); (try (refine keep_cps (b := w.heap.size + 1 + 1) hbq ?_ ?_; (first | omega | (simp only [size_alloc', size_setCell', size_drew', size_drewN']; omega)); intro _ _)); (try (refine keep_cps (b := w.heap.size + 1 + 1 + 1) hbq ?_ ?_; (first | omega | (simp only [size_alloc', size_setCell', size_drew', size_drewN']; omega)); intro _ _)); skip)
    go_ret
    exact ⟨by simp [barTicks, hv], by (repeat' (first | exact Below.refl _ _ | (refine Below.trans ?_ (Below.mono (by assumption) ?_)) | (refine Below.alloc ?_ ?_ _) | (refine Below.setCell ?_ ?_ _) | (refine Below.drew ?_) | (refine below_drewN ?_ _) | omega | (simp only [size_alloc', size_setCell', size_drew', size_drewN'] at *; omega)))⟩
  · obtain ⟨h1, h2, h3⟩ := meterValid_iff.1 hv
    have h4 : 2 ≤ m.unit := by omega
    have h5 : m.unit ≤ 16 := by omega
    clear h3
    go_enter Try.func20, Try.ntmps20
    go_wp2_with (go_at_call 18; refine (c_MeterValid _ _).mono ?_; rintro e wq ⟨rfl, hbq⟩; have hzq := hbq.size; (try simp only [size_alloc', size_setCell', size_drew', size_drewN'] at hzq); (try (refine keep_cps (b := w.heap.size) hbq ?_ ?_; (first | omega | (simp only [size_alloc', size_setCell', size_drew', size_drewN']; omega)); intro _ _)); (try (refine keep_cps (b := w.heap.size + 1) hbq ?_ ?_; (first | omega | (simp only [size_alloc', size_setCell', size_drew', size_drewN']; omega)); intro _ _)); (try (refine keep_cps (b := w.heap.size + 1 + 1) hbq ?_ ?_; (first | omega | (simp only [size_alloc', size_setCell', size_drew', size_drewN']; omega)); intro _ _)); (try (refine keep_cps (b := w.heap.size + 1 + 1 + 1) hbq ?_ ?_; (first | omega | (simp only [size_alloc', size_setCell', size_drew', size_drewN']; omega)); intro _ _)); skip)
    go_ret
    exact ⟨by simp [barTicks, hv], by (repeat' (first | exact Below.refl _ _ | (refine Below.trans ?_ (Below.mono (by assumption) ?_)) | (refine Below.alloc ?_ ?_ _) | (refine Below.setCell ?_ ?_ _) | (refine Below.drew ?_) | (refine below_drewN ?_ _) | omega | (simp only [size_alloc', size_setCell', size_drew', size_drewN'] at *; omega)))⟩
theorem c_sBarTicks (m : Met) (w : World) :
    Calls Try.prog 19 #[m.v] w fun e w' => e = .returned (.int .i64 (barTicks m)) ∧ Below w.heap.size w w' := by
  cases hv : meterValid m
  · go_enter Try.func19, Try.ntmps19
    go_wp2_with (go_at_call 16; refine (c_sMeterValid _ _).mono ?_; rintro e wq ⟨rfl, hbq⟩; have hzq := hbq.size; (try simp only [size_alloc', size_setCell', size_drew', size_drewN'] at hzq); (try (refine keep_cps (b := w.heap.size) hbq ?_ ?_; (first | omega | (simp only [size_alloc', size_setCell', size_drew', size_drewN']; omega)); intro _ _)); (try (refine keep_cps (b := w.heap.size + 1) hbq ?_ ?_; (first | omega | (simp only [size_alloc', size_setCell', size_drew', size_drewN']; omega)); intro _ _)); (try (refine keep_cps (b := w.heap.size + 1 + 1) hbq ?_ ?_; (first | omega | (simp only [size_alloc', size_setCell', size_drew', size_drewN']; omega)); intro _ _)); (try (refine keep_cps (b := w.heap.size + 1 + 1 + 1) hbq ?_ ?_; (first | omega | (simp only [size_alloc', size_setCell', size_drew', size_drewN']; omega)); intro _ _)); skip)
    go_ret
    exact ⟨by simp [barTicks, hv], by (repeat' (first | exact Below.refl _ _ | (refine Below.trans ?_ (Below.mono (by assumption) ?_)) | (refine Below.alloc ?_ ?_ _) | (refine Below.setCell ?_ ?_ _) | (refine Below.drew ?_) | (refine below_drewN ?_ _) | omega | (simp only [size_alloc', size_setCell', size_drew', size_drewN'] at *; omega)))⟩
  · obtain ⟨h1, h2, h3⟩ := meterValid_iff.1 hv
    have h4 : 2 ≤ m.unit := by omega
    have h5 : m.unit ≤ 16 := by omega
    clear h3
    go_enter Try.func19, Try.ntmps19
    go_wp2_with (go_at_call 16; refine (c_sMeterValid _ _).mono ?_; rintro e wq ⟨rfl, hbq⟩; have hzq := hbq.size; (try simp only [size_alloc', size_setCell', size_drew', size_drewN'] at hzq); (try (refine keep_cps (b := w.heap.size) hbq ?_ ?_; (first | omega | (simp only [size_alloc', size_setCell', size_drew', size_drewN']; omega)); intro _ _)); (try (refine keep_cps (b := w.heap.size + 1) hbq ?_ ?_; (first | omega | (simp only [size_alloc', size_setCell', size_drew', size_drewN']; omega)); intro _ _)); (try (refine keep_cps (b := w.heap.size + 1 + 1) hbq ?_ ?_; (first | omega | (simp only [size_alloc', size_setCell', size_drew', size_drewN']; omega)); intro _ _)); (try (refine keep_cps (b := w.heap.size + 1 + 1 + 1) hbq ?_ ?_; (first | omega | (simp only [size_alloc', size_setCell', size_drew', size_drewN']; omega)); intro _ _)); skip)
    go_ret
    exact ⟨by simp [barTicks, hv], by (repeat' (first | exact Below.refl _ _ | (refine Below.trans ?_ (Below.mono (by assumption) ?_)) | (refine Below.alloc ?_ ?_ _) | (refine Below.setCell ?_ ?_ _) | (refine Below.drew ?_) | (refine below_drewN ?_ _) | omega | (simp only [size_alloc', size_setCell', size_drew', size_drewN'] at *; omega)))⟩
end Go.Proofs.Ytendoahanngacaa
