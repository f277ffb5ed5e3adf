/- Joining lists of sections: plain; sameInts; the walk of FnSectionsJoin. Conditions: none beyond the law's own. -/
import Derived.Test.YtlhekgjckjcbhaaS13
namespace Go.Proofs.Ytlhekgjckjcbhaa
open Go.RowKit
set_option linter.unusedSimpArgs false
set_option linter.unusedVariables false
set_option maxHeartbeats 8000000

theorem runL_shift (a c : Int) (n : Nat) : runL (a + c) n = (runL a n).map (· + c) := by
  unfold runL
  rw [List.map_map]
  apply List.map_congr_left
  intro i _
  show a + c + (i : Int) = a + (i : Int) + c
  omega
theorem endL_shift (F c : Int) (s : SD) (t : Nat) : endL (F + c) s t = (endL F s t).map (· + c) := by
  unfold endL
  cases s.l[t]? with
  | none => rfl
  | some x =>
    dsimp only
    rw [← runL_shift]
    congr 1
    omega
theorem timesL_shift (F c : Int) (s : SD) : ∀ t, timesL (F + c) s t = (timesL F s t).map (· + c) := by
  intro t
  induction t with
  | zero => rfl
  | succ t ih => rw [timesL_succ, timesL_succ, ih, runL_shift, endL_shift, List.map_append, List.map_append]
theorem writtenS_app (a b : List SD) : writtenS (a ++ b) = writtenS a + writtenS b := by simp [writtenS]
theorem playedUp_left (a b : List SD) : ∀ k, k ≤ a.length → playedUp (a ++ b) k = playedUp a k := by
  intro k
  induction k with
  | zero => intro _; rfl
  | succ k ih =>
    intro hk
    rw [playedUp_succ (s := a[k]) (by rw [List.getElem?_append_left (by omega)]; exact List.getElem?_eq_getElem (by omega)), playedUp_succ (s := a[k]) (List.getElem?_eq_getElem (by omega)), ih (by omega), List.take_append_of_le_length (by omega)]
theorem playedUp_join (a b : List SD) : ∀ k, k ≤ b.length → playedUp (a ++ b) (a.length + k) = playedUp a a.length ++ (playedUp b k).map (· + writtenS a) := by
  intro k
  induction k with
  | zero => intro _; rw [Nat.add_zero, playedUp_left a b _ (Nat.le_refl _)]; simp [playedUp]
  | succ k ih =>
    intro hk
    have hlt : k < b.length := by omega
    rw [show a.length + (k + 1) = a.length + k + 1 from rfl, playedUp_succ (s := b[k]) (by rw [List.getElem?_append_right (by omega), Nat.add_sub_cancel_left]; exact List.getElem?_eq_getElem hlt), ih (by omega),
      playedUp_succ (s := b[k]) (List.getElem?_eq_getElem hlt), List.map_append, List.append_assoc]
    congr 2
    rw [List.take_append, Nat.add_sub_cancel_left, List.take_of_length_le (show a.length ≤ a.length + k by omega), writtenS_app, Int.add_comm, timesL_shift]
theorem secsOk_app {a b : List SD} (h : secsOk (a ++ b) = true) : secsOk a = true ∧ secsOk b = true := by
  unfold secsOk at *
  simp only [List.length_append, List.all_append, Bool.and_eq_true, decide_eq_true_eq] at *
  exact ⟨⟨by omega, h.2.1⟩, ⟨by omega, h.2.2⟩⟩
theorem played_join {a b : List SD} (h : secsOk (a ++ b) = true) : playedB (a ++ b) = playedB a ++ (playedB b).map (· + writtenS a) ∧ writtenB (a ++ b) = writtenB a + writtenB b ∧ writtenB a = writtenS a := by
  obtain ⟨h1, h2⟩ := secsOk_app h
  unfold playedB writtenB
  rw [if_pos h, if_pos h1, if_pos h2, if_pos h, if_pos h1, if_pos h2, List.length_append, playedUp_join a b b.length (Nat.le_refl _), writtenS_app]
  exact ⟨rfl, rfl, rfl⟩
/-- PlayedOrder at whatever sections: a slice of the call's own. -/
def OrderAny (xs : List Int) (ok : Bool) (w : World) (e : Ending) (w' : World) : Prop :=
  ∃ v, e = .returned v ∧ Rd w' v 1 xs.length (intCells xs) ∧ xs.length ≤ 4000 ∧ (ok = true → ∃ g cap, v = .slice (some ⟨g, 0, none⟩) xs.length cap) ∧ Below w.heap.size w w'
theorem OrderMade.any {xs : List Int} {ok : Bool} {w : World} {e : Ending} {w' : World} (h : OrderMade xs w e w') : OrderAny xs ok w e w' := by
  obtain ⟨g, n, cap, he, ho, hn, hb⟩ := h
  have hl : n = xs.length := by have := ho.1; rw [intCells_lenA] at this; omega
  subst hl
  exact ⟨_, he, Rd.of_own ho, hn, fun _ => ⟨_, _, rfl⟩, hb⟩
theorem playedB_no {ds : List SD} (h : secsOk ds = false) : playedB ds = [] := by unfold playedB; rw [h]; rfl
theorem rd_cells {w : World} {b n c size : Nat} {xs : List Value} (h : Rd w (.slice (some ⟨b, 0, none⟩) n c) size n xs) : ∀ j u, xs[j]? = some u → w.cell? ⟨b, 0 + j, none⟩ = some u := by
  obtain ⟨h1, A, c', he, h2, h3, h4⟩ := h
  cases he
  intro j u hu
  have hj := (List.getElem?_eq_some_iff.1 hu).1
  obtain ⟨b', off, hb, hc⟩ := h4 (by
    rcases Nat.eq_zero_or_pos n with hn | hn
    · subst hn; rw [h1] at hj; omega
    · exact hn)
  cases hb
  exact hc j u hu
theorem c_PlayedOrder_any (v : Value) (ss : List Sec) (w : World) (h : RdS w v ss) : Calls Try.prog 36 #[v] w (OrderAny (playedB (ss.map Sec.d)) (secsOk (ss.map Sec.d)) w) := by
  cases hv : secsOk (ss.map Sec.d)
  · refine (c_PlayedOrder_no v ss w h hv).mono fun e w' ⟨he, hb⟩ => ⟨_, he, ?_, ?_, by simp, hb⟩
    · rw [playedB_no hv]; exact ⟨rfl, none, 0, rfl, Nat.le_refl _, by simp [maxLen], fun h0 => absurd h0 (by simp)⟩
    · rw [playedB_no hv]; simp
  · exact (c_PlayedOrder v ss w h hv).mono fun e w' hh => hh.any
theorem c_sPlayedOrder_any (v : Value) (ss : List Sec) (w : World) (h : RdS w v ss) : Calls Try.prog 58 #[v] w (OrderAny (playedB (ss.map Sec.d)) (secsOk (ss.map Sec.d)) w) := by
  cases hv : secsOk (ss.map Sec.d)
  · refine (c_sPlayedOrder_no v ss w h hv).mono fun e w' hh => ?_
    rw [playedB_no hv]; exact hh.any
  · exact (c_sPlayedOrder v ss w h hv).mono fun e w' hh => hh.any
end Go.Proofs.Ytlhekgjckjcbhaa
