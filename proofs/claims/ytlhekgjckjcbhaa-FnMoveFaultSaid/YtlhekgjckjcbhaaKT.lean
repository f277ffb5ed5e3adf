/- Rows of pitches beside a reader. Conditions: none. -/
import Derived.Test.YtlhekgjckjcbhaaC1
import Derived.Test.YtlhekgjckjcbhaaR2
import Derived.Test.YtlhekgjckjcbhaaAP
namespace Go.Proofs.Ytlhekgjckjcbhaa
open Go.RowKit
set_option linter.unusedSimpArgs false
set_option linter.unusedVariables false
set_option maxHeartbeats 16000000
theorem cells_newQ (W : World) (a b c : Int) (T : TypeId) : ∀ j u, (Pit.cells ⟨a, b, c⟩)[j]? = some u → (W.alloc (.cells #[.int .i64 a, .int .i64 b, .int .i64 c] T)).cell? ⟨W.heap.size, 0 + j, none⟩ = some u := by
  intro j u hj
  have hl := (List.getElem?_eq_some_iff.1 hj).1
  rw [Pit.cells_len] at hl
  match j, hl with
  | 0, _ => simp [Pit.cells] at hj; subst hj; simp
  | 1, _ => simp [Pit.cells] at hj; subst hj; simp
  | 2, _ => simp [Pit.cells] at hj; subst hj; simp
theorem own_setQ {W : World} {base e size g n cap m i : Nat} {xs : List Value} {u : Value} (h : W.ownsRow base e size (.slice (some ⟨g, 0, none⟩) n cap) m xs) : (W.setCell ⟨g, i, none⟩ u).ownsRow base e size (.slice (some ⟨g, 0, none⟩) n cap) m (xs.set i u) := by
  refine ⟨by rw [List.length_set]; exact h.1, ?_⟩
  rcases h.2 with ⟨hc, _⟩ | ⟨g2, cap2, cur, hv, hb, hg, h1, h2, hs, ht⟩
  · cases hc
  · cases hv
    refine .inr ⟨g, cap, cur.setIfInBounds i u, rfl, hb, ?_, h1, h2, by simpa using hs, ?_⟩
    · simp [heap_setCell_get, hg]
    · rw [Array.toList_setIfInBounds, List.take_set, ht]
theorem set_oct (p : Pit) (l : List Pit) (c : Int) : (pitCells (p :: l)).set 2 (.int .i64 c) = pitCells (⟨p.step, p.alter, c⟩ :: l) := by
  show (cellsOf Pit.cells (p :: l)).set 2 (.int .i64 c) = cellsOf Pit.cells _
  rw [cellsOf_cons, cellsOf_cons]
  rfl
theorem frozen_ownQ {W : World} {base e size g n cap m : Nat} {xs : List Value} (h : W.ownsRow base e size (.slice (some ⟨g, 0, none⟩) n cap) m xs) : ∀ o, W.frozen? ⟨g, o, none⟩ = false := by
  rcases h.2 with ⟨hc, _⟩ | ⟨g2, cap2, cur, hv, _, hg, _⟩
  · cases hc
  · cases hv
    exact (blk_facts hg).2
theorem own_some {W : World} {base e size n : Nat} {v : Value} {xs : List Value} (h : W.ownsRow base e size v n xs) (hn : 0 < n) : ∃ g cap, v = .slice (some ⟨g, 0, none⟩) n cap ∧ n ≤ cap ∧ cap ≤ maxLen := by
  rcases h.2 with ⟨_, h0⟩ | ⟨g, cap, cur, hv, _, _, h1, h2, _⟩
  · omega
  · exact ⟨g, cap, hv, h1, h2⟩
theorem pick_ownQ {W W' : World} {base e size n g : Nat} {v : Value} {xs : List Value} (h : W.ownsRow base e size v n xs) (hk : W.grownBy W' (some g)) (hg : g < base) : W'.ownsRow base e size v n xs :=
  h.kept hk (by
    cases hv : v.ownBlock with
    | none => exact .inl rfl
    | some k =>
      right
      intro hk
      cases hk
      have := (h.lt g hv).1
      omega)
theorem rdr_appQ {W W' : World} {g gv m : Nat} (h : Rdr W g m) (hk : W.grownBy W' (some gv)) (hg : g < gv) : Rdr W' g m :=
  h.keep fun k hk' => hk.block k (Nat.lt_of_le_of_lt hk' h.lt) (by intro hh; cases hh; omega)
theorem kp_appQ {a W W' : World} {g gv : Nat} (ha : a.grownBy W (some g)) (hk : W.grownBy W' (some gv)) (hg : a.heap.size ≤ gv) : a.grownBy W' (some g) :=
  ⟨hk.os.trans ha.os, hk.tape.trans ha.tape, hk.output.trans ha.output, Nat.le_trans ha.size hk.size, fun i hi hne =>
    (hk.block i (Nat.lt_of_lt_of_le hi ha.size) (by intro hh; cases hh; omega)).trans (ha.block i hi hne)⟩
theorem pits_first {W : World} {g : Nat} {p : Pit} {l : List Pit} (h : ∀ j u, (pitCells (p :: l))[j]? = some u → W.cell? ⟨g, 0 + j, none⟩ = some u) :
    W.cell? ⟨g, 0, none⟩ = some (.int .i64 p.step) ∧ W.cell? ⟨g, 1, none⟩ = some (.int .i64 p.alter) ∧ W.cell? ⟨g, 2, none⟩ = some (.int .i64 p.octave) := by
  have := pit_at h 0 (by simp)
  simpa using this
def St (w : World) (g m N : Nat) (v : Value) (wx : World) : Prop :=
  ∃ ns : List Pit, wx.ownsRow w.heap.size 29 3 v ns.length (pitCells ns) ∧ ns.length ≤ N ∧ Rdr wx g m ∧ w.grownBy wx (some g)
theorem rd_tail {W : World} {p : Pit} {l : List Pit} {g cap : Nat} {base : Nat} {e : TypeId} (h : W.ownsRow base e 3 (.slice (some ⟨g, 0, none⟩) (p :: l).length cap) (p :: l).length (pitCells (p :: l))) :
    Rd W (.slice (some ⟨g, 3, none⟩) l.length (cap - 1)) 3 l.length (pitCells l) := by
  have hR := Rd.of_own h
  obtain ⟨_, A, c, he, hnc, hcm, hA⟩ := hR
  cases he
  have hc := own_cells h
  refine ⟨cellsOf_len Pit.cells 3 Pit.cells_len l, _, _, rfl, by simp at hnc; omega, by omega, fun _ => ⟨g, 3, rfl, fun j u hu => ?_⟩⟩
  have := hc (3 + j) u (by
    show (cellsOf Pit.cells (p :: l))[3 + j]? = some u
    rw [cellsOf_cons, List.getElem?_append_right (by rw [Pit.cells_len]; omega), Pit.cells_len, show 3 + j - 3 = j by omega]
    exact hu)
  rwa [Nat.zero_add] at this
theorem ne_cons {ns : List Pit} (h : 0 < ns.length) : ∃ p l, ns = p :: l := by
  cases ns with
  | nil => simp at h
  | cons p l => exact ⟨p, l, rfl⟩
end Go.Proofs.Ytlhekgjckjcbhaa
