/- What the laws on sections draw; appending whole lists; the walk of FnSectionsValid. Conditions: none beyond the laws' own. -/
import Derived.Test.YtlhekgjckjcbhaaS8
namespace Go.Proofs.Ytlhekgjckjcbhaa
open Go.RowKit
set_option linter.unusedSimpArgs false
set_option linter.unusedVariables false
set_option maxHeartbeats 8000000

/-- append of a list of sections to a row of the call's own. -/
theorem wp_secsl {W : World} {ops : Array Oper} {rest : List Oper} {o : Oper} {a : Act} {Q : Exit → Act → World → Prop} (hw : Region.wanted o (yielded ops a.tmps) = true) (s x : Operand)
    (ho : o.op = .call { callee := .builtin .append, args := #[s, x], argTypes := #[52, 52] }) (base : Nat) (v : Value) (s0 : List Sec) (hs : a.eval s = v)
    (hown : W.ownsRow base 43 3 v s0.length (secCells s0)) (b off c : Nat) (ss : List Sec) (hx : a.eval x = .slice (some ⟨b, off, none⟩) ss.length c)
    (hc : ∀ j u, (secCells ss)[j]? = some u → W.cell? ⟨b, off + j, none⟩ = some u) (h1 : ∀ s ∈ ss, s.v.oneCell' = true) (hl : s0.length + ss.length ≤ 4000000) (hbase : base ≤ W.heap.size)
    (h : ∀ v' w', w'.ownsRow base 43 3 v' (s0.length + ss.length) (secCells (s0 ++ ss)) → W.grownBy w' v.ownBlock → wpList Try.prog ops Q rest (a.put o.dst v') w') :
    wpList Try.prog ops Q (o :: rest) a W := by
  obtain ⟨i0, hi0, hz0, hz1, hz2⟩ := info_parts info_sec
  refine wpList_wanted hw fun _ hK => wp_append_own W s x 52 ho base 43 i0 _ 3 40 Try.underlying52 hi0 hz0 hz1 hz2 rfl (by decide) v _ _ hs hown ⟨b, off, none⟩ ss.length c (secCells ss) hx ?_ ?_ ?_ ?_ ?_ hbase ?_
  · exact cellsOf_len Sec.cells 3 Sec.cells_len ss
  · intro j u hj
    have hadd : (⟨b, off, none⟩ : Addr).add j = ⟨b, off + j, none⟩ := by unfold Addr.add; split <;> simp_all
    rw [hadd]
    exact hc j u hj
  · intro u hu
    obtain ⟨s, hs, hu⟩ := List.mem_flatMap.1 hu
    simp [Sec.cells] at hu
    rcases hu with rfl | rfl | rfl
    · rfl
    · rfl
    · exact h1 s hs
  · unfold maxLen; omega
  · omega
  · intro v' w' h2 h3 _
    refine hK _ _ (h v' w' ?_ h3)
    rw [show secCells (s0 ++ ss) = secCells s0 ++ secCells ss from cellsOf_append _ _ _]
    exact h2
theorem SRd.one {w : World} {s : Sec} (h : SRd w s) : s.v.oneCell' = true := by
  obtain ⟨_, A, c, hv, _⟩ := h
  rw [hv]
  rfl
def DSecs (w : World) (e : Ending) (w' : World) : Prop :=
  ∃ v ss, e = .returned v ∧ SecsOwn w.heap.size w' v ss ∧ (ss : List Sec).length ≤ 9 ∧ (∀ s ∈ ss, s.l.length ≤ 8) ∧ Below w.heap.size w w'
end Go.Proofs.Ytlhekgjckjcbhaa
