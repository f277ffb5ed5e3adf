/- Degrees of chords in plain terms; l10Class, l10Has. Conditions: none. -/
import Derived.Test.YtiameebjcmnmeaaT2
import Derived.Test.YtiameebjcmnmeaaK3
namespace Go.Proofs.Ytiameebjcmnmeaa
open Go.RowKit
set_option linter.unusedSimpArgs false
set_option linter.unusedVariables false
set_option maxHeartbeats 8000000
theorem hasT_take_succ (l : List Pit) (k : Nat) (h : k < l.length) (p : Pit) : hasT (l.take (k + 1)) p = (hasT (l.take k) p || (decide (l[k].step = p.step) && decide (l[k].alter = p.alter))) := by
  unfold hasT
  rw [List.take_succ_eq_append_getElem h, List.any_append]
  simp
theorem all_take_succ (f : Pit → Bool) (l : List Pit) (k : Nat) (h : k < l.length) : (l.take (k + 1)).all f = ((l.take k).all f && f l[k]) := by
  rw [List.take_succ_eq_append_getElem h, List.all_append]
  simp
def first7 (p : Nat → Bool) : Int :=
  if p 0 then 0 else if p 1 then 1 else if p 2 then 2 else if p 3 then 3 else if p 4 then 4 else if p 5 then 5 else if p 6 then 6 else -1
theorem first7_hit {p : Nat → Bool} {d : Nat} (hd : d < 7) (hn : ∀ d', d' < d → p d' = false) (h : p d = true) : first7 p = d := by
  have h7 : d = 0 ∨ d = 1 ∨ d = 2 ∨ d = 3 ∨ d = 4 ∨ d = 5 ∨ d = 6 := by omega
  unfold first7
  rcases h7 with rfl | rfl | rfl | rfl | rfl | rfl | rfl
  · simp [h]
  · simp [h, hn 0 (by omega)]
  · simp [h, hn 0 (by omega), hn 1 (by omega)]
  · simp [h, hn 0 (by omega), hn 1 (by omega), hn 2 (by omega)]
  · simp [h, hn 0 (by omega), hn 1 (by omega), hn 2 (by omega), hn 3 (by omega)]
  · simp [h, hn 0 (by omega), hn 1 (by omega), hn 2 (by omega), hn 3 (by omega), hn 4 (by omega)]
  · simp [h, hn 0 (by omega), hn 1 (by omega), hn 2 (by omega), hn 3 (by omega), hn 4 (by omega), hn 5 (by omega)]
theorem first7_none {p : Nat → Bool} (hn : ∀ d', d' < 7 → p d' = false) : first7 p = -1 := by
  unfold first7
  simp [hn 0 (by omega), hn 1 (by omega), hn 2 (by omega), hn 3 (by omega), hn 4 (by omega), hn 5 (by omega), hn 6 (by omega)]
def degAt (f : Int) (m : Bool) (l : List Pit) (d : Nat) : Bool := sameT l (chordOn f m d false) || sameT l (chordOn f m d true)
def degF (f : Int) (m : Bool) (l : List Pit) : Int := if inB f (-7) 7 = true ∧ arePits l 1 12 = true then first7 (degAt f m l) else -1
theorem degF_no {f : Int} {m : Bool} {l : List Pit} (h : ¬ (inB f (-7) 7 = true ∧ arePits l 1 12 = true)) : degF f m l = -1 := by unfold degF; rw [if_neg h]
theorem degF_yes {f : Int} {m : Bool} {l : List Pit} (hf : inB f (-7) 7 = true) (hl : arePits l 1 12 = true) : degF f m l = first7 (degAt f m l) := by unfold degF; rw [if_pos ⟨hf, hl⟩]
/-- What the reference's inner loops tell. -/
def okS (l t : List Pit) : Bool := (l.all fun p => pitchValid p && hasT t p) && t.all (hasT l)
theorem okS_valid {l t : List Pit} (h : ∀ p ∈ l, pitchValid p = true) : okS l t = sameT l t := by
  unfold okS sameT
  congr 1
  rw [Bool.eq_iff_iff, List.all_eq_true, List.all_eq_true]
  constructor
  · intro h1 p hp; have := h1 p hp; rw [Bool.and_eq_true] at this; exact this.2
  · intro h1 p hp; rw [h p hp, h1 p hp]; rfl
theorem okS_bad {l t : List Pit} {p : Pit} (hp : p ∈ l) (h : pitchValid p = false) : okS l t = false := by
  cases ho : okS l t
  · rfl
  · unfold okS at ho
    rw [Bool.and_eq_true, List.all_eq_true] at ho
    have := ho.1 p hp
    rw [h] at this
    cases this
theorem i64_wf {x : Int} (h1 : -1000 ≤ x) (h2 : x ≤ 1000) : (Lit.int .i64 x).wf = true := WalkArith.wf_i64 (by omega)
theorem valid_wf {l : List Pit} (h : ∀ p ∈ l, pitchValid p = true) : WfP l := by
  intro p hp
  have := h p hp
  unfold pitchValid at this
  simp only [Bool.and_eq_true, inB_iff] at this
  exact ⟨i64_wf (by omega) (by omega), i64_wf (by omega) (by omega)⟩
theorem chordOn_wf (f : Int) (m : Bool) (d : Int) (s : Bool) : WfP (chordOn f m d s) := by
  intro p hp
  unfold chordOn at hp
  split at hp
  · unfold scaleTo at hp
    obtain ⟨i, _, rfl⟩ := List.mem_map.1 hp
    unfold keyPit
    have := alterK_bd f ((28 + tonicK f m + d + 2 * (i : Int)) % 7)
    exact ⟨i64_wf (by dsimp only; omega) (by dsimp only; omega), i64_wf (by dsimp only; omega) (by dsimp only; omega)⟩
  · cases hp
theorem chordOn_len6 (f : Int) (m : Bool) (d : Int) (s : Bool) : (chordOn f m d s).length ≤ 4 := by
  unfold chordOn
  split
  · rw [scaleTo_len]; split <;> omega
  · simp
theorem arePits_mem {l : List Pit} {a b : Int} (h : arePits l a b = true) : ∀ p ∈ l, pitchValid p = true := fun p hp => by
  obtain ⟨i, hi, rfl⟩ := List.getElem_of_mem hp
  exact (arePits_iff.1 h).2 i hi
theorem c_l10Class (p q : Pit) (w : World) :
    Calls Try.prog 60 #[p.v, q.v] w fun e w' => e = .returned (.bool (decide (p.step = q.step) && decide (p.alter = q.alter))) ∧ Below w.heap.size w w' := by
  obtain ⟨s, a, o⟩ := p
  obtain ⟨s', a', o'⟩ := q
  by_cases h1 : s = s'
  · have e1 : (s == s') = true := by simpa using h1
    by_cases h2 : a = a'
    · have e2 : (a == a') = true := by simpa using h2
      go_enter Try.func60, Try.ntmps60
      go_wp2
      go_ret
      exact ⟨by simp [h1, h2], by (repeat' (first | (with_reducible exact Below.refl _ _) | (with_reducible refine Below.setCell ?_ ?_ _) | (with_reducible refine Below.alloc ?_ ?_ _) | (with_reducible refine Below.drew ?_) | (with_reducible refine below_drewN ?_ _) | (with_reducible refine Below.trans ?_ (Below.mono (by with_reducible assumption) ?_)) | omega | (simp only [size_alloc', size_setCell', size_drew', size_drewN'] at *; omega)))⟩
    · have e2 : (a == a') = false := by simpa using h2
      go_enter Try.func60, Try.ntmps60
      go_wp2
      go_ret
      exact ⟨by simp [h1, h2], by (repeat' (first | (with_reducible exact Below.refl _ _) | (with_reducible refine Below.setCell ?_ ?_ _) | (with_reducible refine Below.alloc ?_ ?_ _) | (with_reducible refine Below.drew ?_) | (with_reducible refine below_drewN ?_ _) | (with_reducible refine Below.trans ?_ (Below.mono (by with_reducible assumption) ?_)) | omega | (simp only [size_alloc', size_setCell', size_drew', size_drewN'] at *; omega)))⟩
  · have e1 : (s == s') = false := by simpa using h1
    go_enter Try.func60, Try.ntmps60
    go_wp2
    go_ret
    exact ⟨by simp [h1], by (repeat' (first | (with_reducible exact Below.refl _ _) | (with_reducible refine Below.setCell ?_ ?_ _) | (with_reducible refine Below.alloc ?_ ?_ _) | (with_reducible refine Below.drew ?_) | (with_reducible refine below_drewN ?_ _) | (with_reducible refine Below.trans ?_ (Below.mono (by with_reducible assumption) ?_)) | omega | (simp only [size_alloc', size_setCell', size_drew', size_drewN'] at *; omega)))⟩
theorem c_l10Has (v : Value) (ns : List Pit) (p : Pit) (w : World) (h : Rd w v 3 ns.length (pitCells ns)) :
    Calls Try.prog 59 #[v, p.v] w fun e w' => e = .returned (.bool (hasT ns p)) ∧ Below w.heap.size w w' := by
  obtain ⟨_, A, c, rfl, hnc, hcm, hA⟩ := h
  obtain ⟨ps, pa, po⟩ := p
  unfold maxLen at hcm
  have HAA := Lib.hid hA
  have hX0 := heap_alloc_new w (.cells #[.int .i64 ps, .int .i64 pa, .int .i64 po] 32)
  have HX0 := Lib.hid hX0
  clear hA hX0
  go_enter Try.func59, Try.ntmps59
  go_wp2_with fail
  go_loopw [5] (fun i wr => ∃ k : Nat, k ≤ ns.length ∧ i = .int .i64 k ∧ wr.heap[w.heap.size]? = some (.cells #[.int .i64 ps, .int .i64 pa, .int .i64 po] 32 (0, 0)) ∧ hasT (ns.take k) ⟨ps, pa, po⟩ = false ∧ Below w.heap.size w wr) (fun i _ => ns.length - (intOf i).toNat)
  case atStart => exact ⟨0, Nat.zero_le _, rfl, HX0.out, rfl, bel1 _ _⟩
  case round =>
    obtain ⟨k, hk, rfl, hX, hno, hbl⟩ := hrel
    have HX := Lib.hid hX
    have HN := Lib.hid hno
    have hz := hbl.size
    clear hno
    by_cases hlt : k < ns.length
    · obtain ⟨b1, off, rfl, hcc⟩ := HAA.out (by omega)
      obtain ⟨p0, p1, p2⟩ := pit_at (fun j u hu => (hbl.cell (World.block_lt_of_cell? w _ (hcc j u hu))).trans (hcc j u hu)) k hlt
      have HTk := Lib.hid (hasT_take_succ ns k hlt ⟨ps, pa, po⟩)
      have HMem := Lib.hid (List.getElem_mem hlt)
      have hk1 : (0 : Int) ≤ (k : Int) := by omega
      have hk2 : (k : Int) < (ns.length : Int) := by omega
      generalize ns[k] = x at *
      obtain ⟨xs, xa, xo⟩ := x
      dsimp only at p0 p1 p2
      obtain ⟨_, _⟩ := blk_facts hX
      have HC := Lib.hid (fun w => c_l10Class ⟨xs, xa, xo⟩ ⟨ps, pa, po⟩ w)
      dsimp only at HC HTk
      cases hb : (decide (xs = ps) && decide (xa = pa))
      · rw [hb] at HC HTk
        have HN2 := Lib.hid (show hasT (ns.take (k + 1)) ⟨ps, pa, po⟩ = false by rw [HTk.out, HN.out]; rfl)
        clear hcc hX hb
        go_wp2_with fail
        (refine wp_region_more_lit (by kernel_rfl) (by kernel_rfl) ?_; (repeat (go_big_quiet_step ((go_at_call 60; with_reducible exact Calls.more_of (HC.out _))))); refine wpQuiet_nil ?_; intro wq hwq; have hbq := below_of_more hwq; clear hwq; have hzq := hbq.size; (try simp only [size_alloc', size_setCell', size_drew', size_drewN'] at hzq); (try (refine keep_heap (b := w.heap.size) hbq ?_ ?_; (first | omega | (simp only [size_alloc', size_setCell', size_drew', size_drewN']; omega)); intro hkq; simp only [heap_alloc_get, heap_setCell_get, heap_drew_get, heap_drewN_get, size_alloc', size_setCell', size_drew', size_drewN', nat_simp1, nat_simp2, nat_simp3, nat_simp4, nat_simp5, if_true, if_false, *] at hkq; obtain ⟨_, _⟩ := blk_facts hkq)); skip)
        have hX' := below_heap hbq HX.out
        go_wp2
        go_roundw
        case rel => exact ⟨k + 1, by omega, by go_num, hX', HN2.out, hbl.trans (hbq.mono hz)⟩
        case measure => simp [intOf]; omega
      · have HF := Lib.hid (show hasT ns ⟨ps, pa, po⟩ = true by
          rw [Bool.and_eq_true, decide_eq_true_eq, decide_eq_true_eq] at hb
          exact hasT_iff.2 ⟨_, HMem.out, hb.1, hb.2⟩)
        rw [hb] at HC
        clear hcc hX hb
        go_wp2_with fail
        (refine wp_region_more_lit (by kernel_rfl) (by kernel_rfl) ?_; (repeat (go_big_quiet_step ((go_at_call 60; with_reducible exact Calls.more_of (HC.out _))))); refine wpQuiet_nil ?_; intro wq hwq; have hbq := below_of_more hwq; clear hwq; have hzq := hbq.size; (try simp only [size_alloc', size_setCell', size_drew', size_drewN'] at hzq); (try (refine keep_heap (b := w.heap.size) hbq ?_ ?_; (first | omega | (simp only [size_alloc', size_setCell', size_drew', size_drewN']; omega)); intro hkq; simp only [heap_alloc_get, heap_setCell_get, heap_drew_get, heap_drewN_get, size_alloc', size_setCell', size_drew', size_drewN', nat_simp1, nat_simp2, nat_simp3, nat_simp4, nat_simp5, if_true, if_false, *] at hkq; obtain ⟨_, _⟩ := blk_facts hkq)); skip)
        go_wp2
        go_ret
        exact ⟨ret_bool HF.out.symm, hbl.trans (hbq.mono hz)⟩
    · have hke : k = ns.length := by omega
      have HF := Lib.hid (show hasT ns ⟨ps, pa, po⟩ = false by have := HN.out; rwa [hke, List.take_length] at this)
      go_wp2
      go_ret
      exact ⟨ret_bool HF.out.symm, hbl⟩
end Go.Proofs.Ytiameebjcmnmeaa
