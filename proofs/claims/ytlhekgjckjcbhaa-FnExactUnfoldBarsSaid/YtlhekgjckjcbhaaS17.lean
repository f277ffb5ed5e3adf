/- The walk of FnExactPlayedOrder. Conditions: none beyond the law's own. -/
import Derived.Test.YtlhekgjckjcbhaaS16
namespace Go.Proofs.Ytlhekgjckjcbhaa
open Go.RowKit
set_option linter.unusedSimpArgs false
set_option linter.unusedVariables false
set_option maxHeartbeats 8000000

def OrderOwn (xs : List Int) (w : World) (e : Ending) (w' : World) : Prop :=
  ∃ v, e = .returned v ∧ w'.ownsRow w.heap.size 3 1 v xs.length (intCells xs) ∧ xs.length ≤ 4000 ∧ Below w.heap.size w w'
theorem OrderMade.own {xs : List Int} {w : World} {e : Ending} {w' : World} (h : OrderMade xs w e w') : OrderOwn xs w e w' := by
  obtain ⟨g, n, cap, he, ho, hn, hb⟩ := h
  have hl : n = xs.length := by have := ho.1; rw [intCells_lenA] at this; omega
  subst hl
  exact ⟨_, he, ho, hn, hb⟩
theorem own_far {base e size n : Nat} {v : Value} {xs : List Value} {w w' : World} (h : w.ownsRow base e size v n xs) (hk : ∀ b, base ≤ b → b < w.heap.size → w'.heap[b]? = w.heap[b]?) : w'.ownsRow base e size v n xs := by
  refine ⟨h.1, ?_⟩
  rcases h.2 with h1 | ⟨g, cap, cur, hv, hb, hg, r⟩
  · exact .inl h1
  · exact .inr ⟨g, cap, cur, hv, hb, (hk g hb (Array.getElem?_eq_some_iff.1 hg).1).trans hg, r⟩
theorem own_blk {base e size g n cap m : Nat} {xs : List Value} {w : World} (h : w.ownsRow base e size (.slice (some ⟨g, 0, none⟩) n cap) m xs) : ∃ cur : Array Value, w.heap[g]? = some (.cells cur e (0, 0)) ∧ cur.size = cap * size ∧ cur.toList.take (m * size) = xs := by
  rcases h.2 with ⟨hc, _⟩ | ⟨g2, cap2, cur, hv, _, hg, _, _, hs, ht⟩
  · cases hc
  · cases hv
    exact ⟨cur, hg, hs, ht⟩
theorem c_PlayedOrder_own (v : Value) (ss : List Sec) (w : World) (h : RdS w v ss) : Calls Try.prog 36 #[v] w (OrderOwn (playedB (ss.map Sec.d)) w) := by
  cases hv : secsOk (ss.map Sec.d)
  · refine (c_PlayedOrder_no v ss w h hv).mono fun e w' ⟨he, hb⟩ => ⟨_, he, ?_, ?_, hb⟩
    · rw [playedB_no hv]; exact ⟨rfl, .inl ⟨rfl, rfl⟩⟩
    · rw [playedB_no hv]; simp
  · exact (c_PlayedOrder v ss w h hv).mono fun e w' hh => hh.own
theorem c_sPlayedOrder_own (v : Value) (ss : List Sec) (w : World) (h : RdS w v ss) : Calls Try.prog 58 #[v] w (OrderOwn (playedB (ss.map Sec.d)) w) := by
  cases hv : secsOk (ss.map Sec.d)
  · refine (c_sPlayedOrder_no v ss w h hv).mono fun e w' hh => ?_
    rw [playedB_no hv]; exact hh.own
  · exact (c_sPlayedOrder v ss w h hv).mono fun e w' hh => hh.own
theorem c_eqIntS_eq (u v : Value) (l : List Int) (w : World) (ha : Rd w u 1 l.length (intCells l)) (hb : Rd w v 1 l.length (intCells l)) :
    Calls Try.prog 77 #[u, v] w fun e w' => e = .returned (.bool true) ∧ Below w.heap.size w w' := by
  have h := c_eqIntS u v l l w ha hb
  rwa [decide_eq_true (rfl : l = l)] at h
end Go.Proofs.Ytlhekgjckjcbhaa
