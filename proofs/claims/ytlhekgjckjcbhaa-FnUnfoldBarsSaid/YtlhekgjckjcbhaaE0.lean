/- Slices of the call's own beside a reader. Conditions: none. -/
import Derived.Test.YtlhekgjckjcbhaaD1
namespace Go.Proofs.Ytlhekgjckjcbhaa
open Go.RowKit
set_option linter.unusedSimpArgs false
set_option linter.unusedVariables false
set_option maxHeartbeats 2000000

section
variable {base e size n g m : Nat} {v : Value} {xs : List Value} {a w w' : World}
theorem own_ne (h : w.ownsRow base e size v n xs) (hg : g < base) : v.ownBlock = none ∨ v.ownBlock ≠ some g := by
  cases hv : v.ownBlock with
  | none => exact .inl rfl
  | some k =>
    right
    intro hk
    cases hk
    have := (h.lt g hv).1
    omega
theorem own_pick (h : w.ownsRow base e size v n xs) (hk : w.grownBy w' (some g)) (hg : g < base) : w'.ownsRow base e size v n xs := h.kept hk (own_ne h hg)
theorem own_below (h : w.ownsRow base e size v n xs) (hb : Below w.heap.size w w') : w'.ownsRow base e size v n xs :=
  h.kept (row := none) ⟨hb.os, hb.tape, hb.output, hb.size, fun k hk _ => hb.block k hk⟩ (by cases hv : v.ownBlock <;> simp)
theorem rdr_append (hr : Rdr w g m) (h : w.ownsRow base e size v n xs) (hk : w.grownBy w' v.ownBlock) (hg : g < base) : Rdr w' g m := by
  refine hr.keep fun k hk' => hk.block k (Nat.lt_of_le_of_lt hk' hr.lt) ?_
  intro hs
  have := (h.lt k hs.symm).1
  omega
theorem kp_append (ha : a.grownBy w (some g)) (h : w.ownsRow base e size v n xs) (hk : w.grownBy w' v.ownBlock) (hb : a.heap.size ≤ base) : a.grownBy w' (some g) :=
  ⟨hk.os.trans ha.os, hk.tape.trans ha.tape, hk.output.trans ha.output, Nat.le_trans ha.size hk.size, fun i hi hne =>
    (hk.block i (Nat.lt_of_lt_of_le hi ha.size) (by
      intro hs
      have := (h.lt i hs.symm).1
      omega)).trans (ha.block i hi hne)⟩
theorem bel_append {B : Nat} (ha : Below B a w) (h : w.ownsRow base e size v n xs) (hk : w.grownBy w' v.ownBlock) (hb : B ≤ base) (hB : B ≤ w.heap.size) : Below B a w' :=
  ha.trans ⟨hk.os, hk.tape, hk.output, hk.size, fun i hi => hk.block i (by omega) (by
      intro hs
      have := (h.lt i hs.symm).1
      omega)⟩
end
theorem ints_snoc (l : List Int) (x : Int) : intCells (l ++ [x]) = intCells l ++ [.int .i64 x] := by
  rw [show ∀ l : List Int, intCells l = l.map (Value.int .i64) from fun l => by
    induction l with
    | nil => rfl
    | cons a l ih => show cellsOf _ _ = _; rw [cellsOf_cons, List.map_cons]; show [_] ++ intCells l = _; rw [ih]; rfl]
  rw [show intCells l = l.map (Value.int .i64) from by
    induction l with
    | nil => rfl
    | cons a l ih => show cellsOf _ _ = _; rw [cellsOf_cons, List.map_cons]; show [_] ++ intCells l = _; rw [ih]; rfl]
  simp
theorem info_intE : (Try.prog.info? 3).map (fun i => (i.zero, i.size, i.bytes)) = some (some (.int .i64 0), 1, 8) := by kernel_rfl
theorem wp_app1 {w : World} {ops : Array Oper} {rest : List Oper} {o : Oper} {a : Act} {Q : Exit → Act → World → Prop} (hgd : o.guard = none) (s x : Operand)
    (ho : o.op = .call { callee := .builtin .append, args := #[s, x], argTypes := #[41, 41] }) (base : Nat) (v : Value) (l : List Int) (hs : a.eval s = v)
    (hown : w.ownsRow base 3 1 v l.length (intCells l)) (b : Nat) (y : Int) (hx : a.eval x = .slice (some ⟨b, 0, none⟩) 1 1) (hc : w.cell? ⟨b, 0, none⟩ = some (.int .i64 y)) (hl : l.length ≤ 4000000) (hbase : base ≤ w.heap.size)
    (h : ∀ v' w', w'.ownsRow base 3 1 v' (l ++ [y]).length (intCells (l ++ [y])) → w.grownBy w' v.ownBlock → wpList Try.prog ops Q rest (a.put o.dst v') w') : wpList Try.prog ops Q (o :: rest) a w := by
  obtain ⟨i0, hi0, hz0, hz1, hz2⟩ := info_parts info_intE
  refine wpList_append_own w hgd s x 41 ho base 3 i0 (.int .i64 0) 1 8 Try.underlying41 hi0 hz0 hz1 hz2 rfl (by decide) v _ _ hs hown ⟨b, 0, none⟩ 1 1 [.int .i64 y] hx rfl ?_ ?_ ?_ ?_ hbase ?_
  · intro j u hj
    match j, hj with
    | 0, hj => simp at hj; subst hj; simpa [Addr.add] using hc
  · intro u hu; simp at hu; subst hu; rfl
  · unfold maxLen; omega
  · omega
  · intro v' w' h1 h2 _
    refine h v' w' ?_ h2
    rw [ints_snoc, List.length_append]
    exact h1
def DrewInts (g m : Nat) (w : World) (e : Ending) (w' : World) : Prop :=
  ∃ v l, e = .returned v ∧ w'.ownsRow w.heap.size 3 1 v (l : List Int).length (intCells l) ∧ l.length ≤ 9 ∧ (∀ a ∈ l, I64 a) ∧ Rdr w' g m ∧ w.grownBy w' (some g)
theorem all_snoc {p : Int → Prop} {l : List Int} {y : Int} (h : ∀ a ∈ l, p a) (hy : p y) : ∀ a ∈ l ++ [y], p a := by
  intro a ha
  rcases List.mem_append.1 ha with h1 | h1
  · exact h a h1
  · rw [List.mem_singleton.1 h1]; exact hy
end Go.Proofs.Ytlhekgjckjcbhaa
