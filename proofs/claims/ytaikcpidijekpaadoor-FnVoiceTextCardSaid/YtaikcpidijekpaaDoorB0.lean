/- Contracts of the smallest functions on numbers, pitches. Conditions: none. -/
import Derived.Test.YtaikcpidijekpaaDoorProg
import Derived.WalkKit
import Derived.WalkSpells
import Derived.WalkLawsBesides
import Derived.Lib.Hide
import Derived.BigQuiet
import Derived.Deep.QuietTactic
import Derived.Deep.RegionHeld3
import Derived.Deep.DeepCutAuto
import Derived.Deep.LoopGhost
import Derived.Deep.AppendLies
import Derived.Deep.Light
import Derived.Maps.AppendAt
namespace Go.Proofs.YtaikcpidijekpaaDoor
open Go.RowKit
set_option linter.unusedSimpArgs false
set_option linter.unusedVariables false
set_option maxHeartbeats 1000000

theorem ret_bool {a b : Bool} (h : a = b) : Ending.returned (.bool a) = .returned (.bool b) := by rw [h]
theorem ret_int {a b : Int} (h : a = b) : Ending.returned (.int .i64 a) = .returned (.int .i64 b) := by rw [h]
theorem bel1 (w : World) (o : Obj) : Below w.heap.size w (w.alloc o) := (Below.refl _ _).alloc (Nat.le_refl _) _
theorem bcell {W w1 : World} (hb : Below W.heap.size W w1) : (∀ b o, b < W.heap.size → w1.cell? ⟨b, o, none⟩ = W.cell? ⟨b, o, none⟩) ∧ (∀ b o, b < W.heap.size → w1.frozen? ⟨b, o, none⟩ = W.frozen? ⟨b, o, none⟩) :=
  ⟨fun b o h => hb.cell (p := ⟨b, o, none⟩) h, fun b o h => hb.frozen (p := ⟨b, o, none⟩) h⟩

theorem keep_heap {B b : Nat} {W w1 : World} {G : Prop} (hb : Below B W w1) (h : b < B) (k : w1.heap[b]? = W.heap[b]? → G) : G := k (hb.block b h)
theorem blk_facts {b : Nat} {w1 : World} {arr : Array Value} {T : TypeId} (hh : w1.heap[b]? = some (.cells arr T (0, 0))) :
    (∀ o, w1.cell? ⟨b, o, none⟩ = arr[o]?) ∧ (∀ o, w1.frozen? ⟨b, o, none⟩ = false) :=
  ⟨fun o => cell_of_row w1 b o arr T (0, 0) hh, fun o => by simp [World.frozen?, hh]⟩
theorem heap_alloc_get (w : World) (o : Obj) (i : Nat) : (w.alloc o).heap[i]? = if i = w.heap.size then some o else w.heap[i]? := by
  show (w.heap.push o)[i]? = _
  rw [Array.getElem?_push]
theorem heap_setCell_get (w : World) (b off : Nat) (v : Value) (i : Nat) :
    (w.setCell ⟨b, off, none⟩ v).heap[i]? = if b = i then (w.heap[i]?).map (fun | .cells c e f => .cells (c.setIfInBounds off v) e f | o => o) else w.heap[i]? := by
  simp only [World.setCell, Array.getElem?_modify]
  rfl
theorem heap_drew_get (w : World) (i : Nat) : w.drew.heap[i]? = w.heap[i]? := rfl
theorem heap_drewN_get (w : World) (n i : Nat) : (w.drewN n).heap[i]? = w.heap[i]? := rfl
theorem nat_simp1 (n : Nat) : (n = n + 1) = False := by simp
theorem nat_simp2 (n m : Nat) : (n + 1 = m + 1) = (n = m) := by simp
theorem nat_simp3 (n : Nat) : (n + 1 = n) = False := by simp
theorem nat_simp4 (n : Nat) : (n = n + 1 + 1) = False := by simp; omega
theorem nat_simp5 (n : Nat) : (n = n + 1 + 1 + 1) = False := by simp; omega
theorem ne_cps {a b : Nat} {G : Prop} (h : a ≠ b) (k : (a = b) = False → (b = a) = False → G) : G := k (eq_false h) (eq_false (fun e => h e.symm))
theorem size_alloc' (w : World) (o : Obj) : (w.alloc o).heap.size = w.heap.size + 1 := by simp
theorem size_setCell' (w : World) (a : Addr) (v : Value) : (w.setCell a v).heap.size = w.heap.size := by simp [World.setCell]
theorem size_drew' (w : World) : w.drew.heap.size = w.heap.size := rfl
theorem size_drewN' (w : World) (n : Nat) : (w.drewN n).heap.size = w.heap.size := rfl
theorem below_drewN {B : Nat} {a w : World} (h : Below B a w) (n : Nat) : Below B a (w.drewN n) := ⟨h.os, h.tape, h.output, h.size, h.block⟩
theorem quiet_add_left {P : Program} {f : FuncId} {args : Array Value} {w : World} {a n : Nat} {v : Value}
    (h : Calls P f args (w.drewN (a + n)) fun e w' => e = .returned v ∧ w.drewN (a + n) = w') :
    Calls P f args (w.drewN (a + n)) fun e w'' => e = .returned v ∧ ∃ m, w'' = w.drewN (a + m) :=
  h.mono fun _ _ ⟨he, hm⟩ => ⟨he, n, hm.symm⟩
theorem quiet_left {P : Program} {f : FuncId} {args : Array Value} {w : World} {n : Nat} {v : Value}
    (h : Calls P f args (w.drewN n) fun e w' => e = .returned v ∧ w.drewN n = w') : Calls P f args (w.drewN n) fun e w'' => e = .returned v ∧ ∃ m, w'' = w.drewN m :=
  h.mono fun _ _ ⟨he, hm⟩ => ⟨he, n, hm.symm⟩

/-! ### A region that draws its order, whose callees make new memory alone: one walk, in the order of the text. -/
structure Ext where
  os : Array Obj
  d : Nat
instance : Inhabited Ext := ⟨⟨#[], 0⟩⟩
def more (w : World) (x : Ext) : World := { w with heap := w.heap ++ x.os, drawn := x.d }
theorem more_below (w : World) (x : Ext) : Below w.heap.size w (more w x) :=
  ⟨rfl, rfl, rfl, by simp [more], fun k hk => by simp [more, Array.getElem?_append, hk]⟩
theorem below_more {w w' : World} (h : Below w.heap.size w w') : ∃ x, w' = more w x := by
  refine ⟨⟨w'.heap.extract w.heap.size w'.heap.size, w'.drawn⟩, ?_⟩
  have hh : w'.heap = w.heap ++ w'.heap.extract w.heap.size w'.heap.size := by
    apply Array.ext_getElem?
    intro i
    rw [Array.getElem?_append]
    split
    · rename_i hi; exact h.block i hi
    · rename_i hi
      by_cases h2 : i < w'.heap.size
      · rw [Array.getElem?_eq_getElem h2, Array.getElem?_eq_getElem (by simp; omega), Array.getElem_extract]
        congr 2
        omega
      · rw [Array.getElem?_eq_none (by omega), Array.getElem?_eq_none (by simp; omega)]
  cases w' with
  | mk heap tape drawn os output =>
    have h1 := h.os; have h2 := h.tape; have h3 := h.output
    simp only at h1 h2 h3 hh
    subst h1 h2 h3
    simp only [more]
    rw [← hh]
theorem below_of_more {w w' : World} (h : ∃ x, w' = more w x) : Below w.heap.size w w' := by
  obtain ⟨x, rfl⟩ := h
  exact more_below w x
theorem cell?_more (w : World) (x : Ext) (p : Addr) (h : (w.cell? p).isSome = true) : (more w x).cell? p = w.cell? p := by
  obtain ⟨u, hu⟩ := Option.isSome_iff_exists.1 h
  exact (more_below w x).cell (World.block_lt_of_cell? w p hu)
attribute [go_sem] cell?_more
theorem wp_region_more_lit {P : Program} {id : Nat} {Q : Exit → Act → World → Prop} {a : Act} {w : World} {l : List Oper} (hm : P.follows .mixedOrders = true) (hB : Region.lexB .any l.toArray = true)
    (h : wpQuiet P l.toArray (fun w' => ∃ x, w' = more w x) (fun a' => ∀ w', (∃ x, w' = more w x) → Q .normal a' w') l a) : (Code.region id l.toArray true).wp P Q a w :=
  wp_region_quiet (C := fun w' => ∃ x, w' = more w x) hm hB ⟨⟨#[], w.drawn + 1⟩, by simp [more]⟩ (by simpa using h)
theorem Calls.more_of {P : Program} {f : FuncId} {args : Array Value} {w : World} {x : Ext} {v : Value}
    (h : Calls P f args (more w x) fun e w' => e = .returned v ∧ Below (more w x).heap.size (more w x) w') :
    Calls P f args (more w x) fun e w'' => e = .returned v ∧ ∃ y, w'' = more w y :=
  h.mono fun _ _ ⟨he, hb⟩ => ⟨he, below_more ((more_below w x).trans (hb.mono (by simp [more])))⟩
theorem Calls.more_same {P : Program} {f : FuncId} {args : Array Value} {w : World} {x : Ext} {v : Value}
    (h : Calls P f args (more w x) fun e w' => e = .returned v ∧ more w x = w') :
    Calls P f args (more w x) fun e w'' => e = .returned v ∧ ∃ y, w'' = more w y :=
  h.mono fun _ _ ⟨he, hb⟩ => ⟨he, x, hb.symm⟩

def inB (n lo hi : Int) : Bool := decide (lo ≤ n) && decide (n ≤ hi)
theorem inB_iff {n lo hi : Int} : inB n lo hi = true ↔ lo ≤ n ∧ n ≤ hi := by simp [inB]
theorem inB_not {n lo hi : Int} : inB n lo hi = false ↔ n < lo ∨ hi < n := by
  rw [← Bool.not_eq_true, inB_iff]; omega

theorem c_within (n lo hi : Int) (w : World) :
    Calls Tryd.prog 55 #[.int .i64 n, .int .i64 lo, .int .i64 hi] w fun e w' => e = .returned (.bool (inB n lo hi)) ∧ w = w' := by
  by_cases h1 : lo ≤ n <;> by_cases h2 : n ≤ hi
  all_goals
    go_enter Tryd.func55, Tryd.ntmps55
    go_wp2
    go_ret
    simp [inB, h1, h2]
theorem c_l1In (n lo hi : Int) (w : World) :
    Calls Tryd.prog 41 #[.int .i64 n, .int .i64 lo, .int .i64 hi] w fun e w' => e = .returned (.bool (inB n lo hi)) ∧ w = w' := by
  by_cases h1 : lo ≤ n <;> by_cases h2 : n ≤ hi
  all_goals
    go_enter Tryd.func41, Tryd.ntmps41
    go_wp2
    go_ret
    simp [inB, h1, h2]
structure Pit where
  step : Int
  alter : Int
  octave : Int
abbrev Pit.v (p : Pit) : Value := .agg #[.int .i64 p.step, .int .i64 p.alter, .int .i64 p.octave]
def pitchValid (p : Pit) : Bool := inB p.step 0 6 && inB p.alter (-2) 2 && inB p.octave 0 8
theorem c_PitchValid (p : Pit) (w : World) :
    Calls Tryd.prog 56 #[p.v] w fun e w' => e = .returned (.bool (pitchValid p)) ∧ Below w.heap.size w w' := by
  go_enter Tryd.func56, Tryd.ntmps56
  go_wp2_with (go_at_call 55; refine (c_within _ _ _ _).mono ?_; rintro e w' ⟨rfl, rfl⟩)
  all_goals
    go_ret
    exact ⟨by simp [pitchValid, *], bel1 _ _⟩
theorem c_sPitchValid (p : Pit) (w : World) :
    Calls Tryd.prog 42 #[p.v] w fun e w' => e = .returned (.bool (pitchValid p)) ∧ Below w.heap.size w w' := by
  go_enter Tryd.func42, Tryd.ntmps42
  go_wp2_with (go_at_call 41; refine (c_l1In _ _ _ _).mono ?_; rintro e w' ⟨rfl, rfl⟩)
  all_goals
    go_ret
    exact ⟨by simp [pitchValid, *], bel1 _ _⟩
def stepH (s : Int) : Int := if s = 0 then 0 else if s = 1 then 2 else if s = 2 then 4 else if s = 3 then 5 else if s = 4 then 7 else if s = 5 then 9 else 11
theorem c_stepHalves (s : Int) (w : World) (h0 : 0 ≤ s) (h6 : s ≤ 6) :
    Calls Tryd.prog 60 #[.int .i64 s] w fun e w' => e = .returned (.int .i64 (stepH s)) ∧ w = w' := by
  have hs : s = 0 ∨ s = 1 ∨ s = 2 ∨ s = 3 ∨ s = 4 ∨ s = 5 ∨ s = 6 := by omega
  have hi : ∀ w, (Instr.index 100 (.agg #[.int .i64 0, .int .i64 2, .int .i64 4, .int .i64 5, .int .i64 7, .int .i64 9, .int .i64 11]) (.int .i64 s)).run Tryd.prog w = .ok (.int .i64 (stepH s)) w := by
    rcases hs with rfl | rfl | rfl | rfl | rfl | rfl | rfl
    all_goals (intro w; kernel_rfl)
  go_enter Tryd.func60, Tryd.ntmps60
  go_wp2
  go_ret
  exact ⟨rfl, rfl⟩
def keyOf (p : Pit) : Int := if pitchValid p = true then 12 * p.octave + stepH p.step + p.alter else -100
theorem stepH_bd (s : Int) : 0 ≤ stepH s ∧ stepH s ≤ 11 := by unfold stepH; repeat' split
                                                              all_goals omega
theorem pitchValid_iff {p : Pit} : pitchValid p = true ↔ 0 ≤ p.step ∧ p.step ≤ 6 ∧ -2 ≤ p.alter ∧ p.alter ≤ 2 ∧ 0 ≤ p.octave ∧ p.octave ≤ 8 := by
  simp [pitchValid, inB, and_assoc]
theorem c_PitchKey (p : Pit) (w : World) :
    Calls Tryd.prog 43 #[p.v] w fun e w' => e = .returned (.int .i64 (keyOf p)) ∧ Below w.heap.size w w' := by
  cases hv : pitchValid p
  · go_enter Tryd.func43, Tryd.ntmps43
    go_wp2_with (go_at_call 56; (with_reducible refine (c_PitchValid _ _).mono ?_); rintro e wq ⟨rfl, hbq⟩; have hzq := hbq.size; (try simp only [size_alloc', size_setCell', size_drew', size_drewN'] at hzq); (try (refine keep_heap (b := w.heap.size) hbq ?_ ?_; (first | omega | (simp only [size_alloc', size_setCell', size_drew', size_drewN']; omega)); intro hkq; simp only [heap_alloc_get, heap_setCell_get, heap_drew_get, heap_drewN_get, size_alloc', size_setCell', size_drew', size_drewN', nat_simp1, nat_simp2, nat_simp3, nat_simp4, nat_simp5, if_true, if_false, *] at hkq; obtain ⟨_, _⟩ := blk_facts hkq)); (try (refine keep_heap (b := w.heap.size + 1) hbq ?_ ?_; (first | omega | (simp only [size_alloc', size_setCell', size_drew', size_drewN']; omega)); intro hkq; simp only [heap_alloc_get, heap_setCell_get, heap_drew_get, heap_drewN_get, size_alloc', size_setCell', size_drew', size_drewN', nat_simp1, nat_simp2, nat_simp3, nat_simp4, nat_simp5, if_true, if_false, *] at hkq; obtain ⟨_, _⟩ := blk_facts hkq)); (try (refine keep_heap (b := w.heap.size + 1 + 1) hbq ?_ ?_; (first | omega | (simp only [size_alloc', size_setCell', size_drew', size_drewN']; omega)); intro hkq; simp only [heap_alloc_get, heap_setCell_get, heap_drew_get, heap_drewN_get, size_alloc', size_setCell', size_drew', size_drewN', nat_simp1, nat_simp2, nat_simp3, nat_simp4, nat_simp5, if_true, if_false, *] at hkq; obtain ⟨_, _⟩ := blk_facts hkq)); (try (refine keep_heap (b := w.heap.size + 1 + 1 + 1) hbq ?_ ?_; (first | omega | (simp only [size_alloc', size_setCell', size_drew', size_drewN']; omega)); intro hkq; simp only [heap_alloc_get, heap_setCell_get, heap_drew_get, heap_drewN_get, size_alloc', size_setCell', size_drew', size_drewN', nat_simp1, nat_simp2, nat_simp3, nat_simp4, nat_simp5, if_true, if_false, *] at hkq; obtain ⟨_, _⟩ := blk_facts hkq)); skip)
    go_ret
    exact ⟨by simp [keyOf, hv], by (repeat' (first | (with_reducible exact Below.refl _ _) | (with_reducible refine Below.setCell ?_ ?_ _) | (with_reducible refine Below.alloc ?_ ?_ _) | (with_reducible refine Below.drew ?_) | (with_reducible refine below_drewN ?_ _) | (with_reducible refine Below.trans ?_ (Below.mono (by with_reducible assumption) ?_)) | omega | (simp only [size_alloc', size_setCell', size_drew', size_drewN'] at *; omega)))⟩
  · obtain ⟨h1, h2, h3, h4, h5, h6⟩ := pitchValid_iff.1 hv
    obtain ⟨hs0, hs1⟩ := stepH_bd p.step
    go_enter Tryd.func43, Tryd.ntmps43
    go_wp2_with (go_at_call 56; (with_reducible refine (c_PitchValid _ _).mono ?_); rintro e wq ⟨rfl, hbq⟩; have hzq := hbq.size; (try simp only [size_alloc', size_setCell', size_drew', size_drewN'] at hzq); (try (refine keep_heap (b := w.heap.size) hbq ?_ ?_; (first | omega | (simp only [size_alloc', size_setCell', size_drew', size_drewN']; omega)); intro hkq; simp only [heap_alloc_get, heap_setCell_get, heap_drew_get, heap_drewN_get, size_alloc', size_setCell', size_drew', size_drewN', nat_simp1, nat_simp2, nat_simp3, nat_simp4, nat_simp5, if_true, if_false, *] at hkq; obtain ⟨_, _⟩ := blk_facts hkq)); (try (refine keep_heap (b := w.heap.size + 1) hbq ?_ ?_; (first | omega | (simp only [size_alloc', size_setCell', size_drew', size_drewN']; omega)); intro hkq; simp only [heap_alloc_get, heap_setCell_get, heap_drew_get, heap_drewN_get, size_alloc', size_setCell', size_drew', size_drewN', nat_simp1, nat_simp2, nat_simp3, nat_simp4, nat_simp5, if_true, if_false, *] at hkq; obtain ⟨_, _⟩ := blk_facts hkq)); (try (refine keep_heap (b := w.heap.size + 1 + 1) hbq ?_ ?_; (first | omega | (simp only [size_alloc', size_setCell', size_drew', size_drewN']; omega)); intro hkq; simp only [heap_alloc_get, heap_setCell_get, heap_drew_get, heap_drewN_get, size_alloc', size_setCell', size_drew', size_drewN', nat_simp1, nat_simp2, nat_simp3, nat_simp4, nat_simp5, if_true, if_false, *] at hkq; obtain ⟨_, _⟩ := blk_facts hkq)); (try (refine keep_heap (b := w.heap.size + 1 + 1 + 1) hbq ?_ ?_; (first | omega | (simp only [size_alloc', size_setCell', size_drew', size_drewN']; omega)); intro hkq; simp only [heap_alloc_get, heap_setCell_get, heap_drew_get, heap_drewN_get, size_alloc', size_setCell', size_drew', size_drewN', nat_simp1, nat_simp2, nat_simp3, nat_simp4, nat_simp5, if_true, if_false, *] at hkq; obtain ⟨_, _⟩ := blk_facts hkq)); skip)
    go_quiet ((go_at_call 60; exact quiet_left (c_stepHalves _ _ h1 h2)))
    go_wp2
    go_ret
    exact ⟨by simp [keyOf, hv], by (repeat' (first | (with_reducible exact Below.refl _ _) | (with_reducible refine Below.setCell ?_ ?_ _) | (with_reducible refine Below.alloc ?_ ?_ _) | (with_reducible refine Below.drew ?_) | (with_reducible refine below_drewN ?_ _) | (with_reducible refine Below.trans ?_ (Below.mono (by with_reducible assumption) ?_)) | omega | (simp only [size_alloc', size_setCell', size_drew', size_drewN'] at *; omega)))⟩
structure Met where
  beats : Int
  unit : Int
abbrev Met.v (m : Met) : Value := .agg #[.int .i64 m.beats, .int .i64 m.unit]
def unitOk (u : Int) : Bool := u == 2 || u == 4 || u == 8 || u == 16
def meterValid (m : Met) : Bool := inB m.beats 1 12 && unitOk m.unit
end Go.Proofs.YtaikcpidijekpaaDoor
