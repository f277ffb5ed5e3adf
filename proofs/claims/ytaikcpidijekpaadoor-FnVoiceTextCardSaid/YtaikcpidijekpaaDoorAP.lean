/- append to a slice of the call's own, of whatever comes: one law for all element types. No function of the program. Conditions: none. -/
import Derived.Test.YtaikcpidijekpaaDoorB2
namespace Go.Proofs.YtaikcpidijekpaaDoor
open Go.RowKit
set_option linter.unusedSimpArgs false
set_option linter.unusedVariables false
set_option maxHeartbeats 1000000

theorem wanted_step {P : Program} {ops : Array Oper} {rest : List Oper} {o : Oper} {a : Act} {w : World} {Q : Exit → Act → World → Prop} (hw : Region.wanted o (yielded ops a.tmps) = true)
    (h : ∀ K : Act → World → Prop, (∀ a w, wpList P ops Q rest a w → K a w) → o.wp P a w K Q) : wpList P ops Q (o :: rest) a w :=
  wpList_step fun K hK => by rw [if_pos hw]; exact h K hK
/-- The new value written out: its block is the old one or the one that is made now. -/
theorem wp_appl {P : Program} {W : World} {ops : Array Oper} {rest : List Oper} {o : Oper} {a : Act} {Q : Exit → Act → World → Prop} (hw : Region.wanted o (yielded ops a.tmps) = true) (s x : Operand) (t e : TypeId)
    (ho : o.op = .call { callee := .builtin .append, args := #[s, x], argTypes := #[t, t] }) (z : Value) (size bytes : Nat) (ht : P.underlying t = some (.slice e))
    (hinfo : (P.info? e).map (fun i => (i.zero, i.size, i.bytes)) = some (some z, size, bytes)) (hzs : z.cells.size = size) (hsz : 0 < size) (hb8 : bytes ≤ 100)
    (base gv capv n : Nat) (xs : List Value) (hs : a.eval s = .slice (some ⟨gv, 0, none⟩) n capv) (hown : W.ownsRow base e size (.slice (some ⟨gv, 0, none⟩) n capv) n xs)
    (b off c m : Nat) (news : List Value) (hx : a.eval x = .slice (some ⟨b, off, none⟩) m c) (hl : news.length = m * size) (hc : ∀ j u, news[j]? = some u → W.cell? ⟨b, off + j, none⟩ = some u) (h1 : ∀ u ∈ news, u.oneCell' = true)
    (hN : n + m ≤ 4000000) (hbase : base ≤ W.heap.size)
    (h : ∀ g cap w', w'.ownsRow base e size (.slice (some ⟨g, 0, none⟩) (n + m) cap) (n + m) (xs ++ news) → W.grownBy w' (some gv) → (g = gv ∨ g = W.heap.size) → g < w'.heap.size →
      wpList P ops Q rest (a.put o.dst (.slice (some ⟨g, 0, none⟩) (n + m) cap)) w') :
    wpList P ops Q (o :: rest) a W := by
  obtain ⟨i0, hi0, hz0, hz1, hz2⟩ := info_parts hinfo
  have hadd : ∀ j, (⟨b, off, none⟩ : Addr).add j = ⟨b, off + j, none⟩ := by intro j; unfold Addr.add; split <;> simp_all
  refine wanted_step hw fun K hK => ?_
  obtain ⟨v', w', hr, h2, h3, h4, h5⟩ := run_append_own_at (P := P) W base t o.type e i0 z size bytes ht hi0 hz0 hz1 hz2 hzs hsz _ n xs hown ⟨b, off, none⟩ m c news hl (fun j u hj => by rw [hadd]; exact hc j u hj) h1
    (by unfold maxLen; omega) (by
      have : (n + m) * bytes ≤ 4000000 * 100 := Nat.mul_le_mul hN hb8
      omega) hbase
  have hform : ∃ g cap, v' = .slice (some ⟨g, 0, none⟩) (n + m) cap ∧ g < w'.heap.size := by
    rcases h2.2 with ⟨hv, _⟩ | ⟨g, cap, cur, hv, _, hg, _⟩
    · have := (h4.1 hv).1
      cases this
    · exact ⟨g, cap, hv, (Array.getElem?_eq_some_iff.1 hg).1⟩
  obtain ⟨g, cap, rfl, hlt⟩ := hform
  unfold Oper.wp execOp
  simp only [ho, resolve, invoke, builtin, Sem.run_bind, Sem.run_pure, Result.andThen_ok, List.map_toArray, List.map_cons, List.map_nil, hs, hx, hr]
  refine hK _ _ (h g cap w' h2 h3 ?_ hlt)
  simp only [Value.ownBlock, Option.some.injEq] at h5
  exact h5
/-- Nothing is appended. -/
theorem run_append_none {P : Program} (w : World) (t ty e : TypeId) (i : TypeInfo) (ht : P.underlying t = some (.slice e)) (hi : P.info? e = some i) (g n cap : Nat) (hle : n ≤ cap) (A : Option Addr) (c : Nat) :
    (Builtin.append_ #[t, t] ty #[.slice (some ⟨g, 0, none⟩) n cap, .slice A 0 c]).run P w = .ok (.slice (some ⟨g, 0, none⟩) n cap) w := by
  cases A with
  | none => simp [Builtin.append_, run_underlying ht, sizeOf, typeInfo, hi, hle, Builtin.lenOf, Builtin.firstCells, storeCells]
  | some a =>
    have h0 := run_firstCells_some (P := P) w i.size 0 a 0 c [] (by simp) (by simp)
    simp [Builtin.append_, run_underlying ht, sizeOf, typeInfo, hi, hle, Builtin.lenOf, h0, storeCells]
/-- .. of a slice that is read, empty or not. -/
theorem wp_apprd {P : Program} {W : World} {ops : Array Oper} {rest : List Oper} {o : Oper} {a : Act} {Q : Exit → Act → World → Prop} (hw : Region.wanted o (yielded ops a.tmps) = true) (s x : Operand) (t e : TypeId)
    (ho : o.op = .call { callee := .builtin .append, args := #[s, x], argTypes := #[t, t] }) (z : Value) (size bytes : Nat) (ht : P.underlying t = some (.slice e))
    (hinfo : (P.info? e).map (fun i => (i.zero, i.size, i.bytes)) = some (some z, size, bytes)) (hzs : z.cells.size = size) (hsz : 0 < size) (hb8 : bytes ≤ 100)
    (base gv capv n : Nat) (xs : List Value) (hs : a.eval s = .slice (some ⟨gv, 0, none⟩) n capv) (hown : W.ownsRow base e size (.slice (some ⟨gv, 0, none⟩) n capv) n xs)
    (v : Value) (m : Nat) (news : List Value) (hx : a.eval x = v) (hrd : Rd W v size m news) (h1 : ∀ u ∈ news, u.oneCell' = true)
    (hN : n + m ≤ 4000000) (hbase : base ≤ W.heap.size)
    (h : ∀ g cap w', w'.ownsRow base e size (.slice (some ⟨g, 0, none⟩) (n + m) cap) (n + m) (xs ++ news) → W.grownBy w' (some gv) → (g = gv ∨ g = W.heap.size) → g < w'.heap.size →
      wpList P ops Q rest (a.put o.dst (.slice (some ⟨g, 0, none⟩) (n + m) cap)) w') :
    wpList P ops Q (o :: rest) a W := by
  rcases hrd.cases with ⟨rfl, rfl, A, c, rfl, _⟩ | ⟨h0, _, hl, b, off, c, rfl, _, _, hcc⟩
  · obtain ⟨i0, hi0, hz0, hz1, hz2⟩ := info_parts hinfo
    have hcap : n ≤ capv := by
      rcases hown.2 with ⟨hc, _⟩ | ⟨g2, cap2, cur, hv, _, _, hcp, _⟩
      · cases hc
      · cases hv; exact hcp
    have hr := run_append_none W t o.type e i0 ht hi0 gv n capv hcap A c
    refine wanted_step hw fun K hK => ?_
    unfold Oper.wp execOp
    simp only [ho, resolve, invoke, builtin, Sem.run_bind, Sem.run_pure, Result.andThen_ok, List.map_toArray, List.map_cons, List.map_nil, hs, hx, hr]
    refine hK _ _ (h gv capv W ?_ (World.grownBy.refl _ _) (.inl rfl) (hown.lt gv rfl).2)
    rw [List.append_nil]
    exact hown
  · exact wp_appl hw s x t e ho z size bytes ht hinfo hzs hsz hb8 base gv capv n xs hs hown b off c m news hx hl hcc h1 hN hbase h
theorem intCells_mapA (l : List Int) : intCells l = l.map (Value.int .i64) := by
  induction l with
  | nil => rfl
  | cons a l ih => show cellsOf _ _ = _; rw [cellsOf_cons, List.map_cons]; show [_] ++ intCells l = _; rw [ih]; rfl
theorem intCells_lenA (l : List Int) : (intCells l).length = l.length := by rw [intCells_mapA, List.length_map]
theorem intCells_one (l : List Int) : ∀ u ∈ intCells l, u.oneCell' = true := by
  intro u hu
  rw [intCells_mapA] at hu
  obtain ⟨y, _, rfl⟩ := List.mem_map.1 hu
  rfl
theorem intCells_app (l r : List Int) : intCells (l ++ r) = intCells l ++ intCells r := cellsOf_append _ _ _
theorem cells_new1 (W : World) (y : Value) (T : TypeId) : ∀ j u, [y][j]? = some u → (W.alloc (.cells #[y] T)).cell? ⟨W.heap.size, 0 + j, none⟩ = some u := by
  intro j u hj
  match j, hj with
  | 0, hj => simp at hj; subst hj; simp
section
variable {base e size n g m : Nat} {v : Value} {xs : List Value} {a w w' : World}
theorem own_belA (h : w.ownsRow base e size v n xs) (hb : Below w.heap.size w w') : w'.ownsRow base e size v n xs :=
  h.kept (row := none) ⟨hb.os, hb.tape, hb.output, hb.size, fun k hk _ => hb.block k hk⟩ (by cases hv : v.ownBlock <;> simp)
/-- What an append of the own row leaves of all that is older than the row. -/
theorem bel_app {B gv capv n : Nat} (ha : Below B a w) (h : w.ownsRow base e size (.slice (some ⟨gv, 0, none⟩) n capv) n xs) (hk : w.grownBy w' (some gv)) (hb : B ≤ base) (hB : B ≤ w.heap.size) : Below B a w' :=
  ha.trans ⟨hk.os, hk.tape, hk.output, hk.size, fun i hi => hk.block i (by omega) (by
      intro hs
      have := (h.lt gv rfl).1
      cases hs
      omega)⟩
theorem heap_appA {gv b : Nat} {o : Obj} (hk : w.grownBy w' (some gv)) (h : w.heap[b]? = some o) (hne : b ≠ gv) : w'.heap[b]? = some o :=
  (hk.block b (Array.getElem?_eq_some_iff.1 h).1 (by simpa using hne)).trans h
end
theorem own_lenA {base e size n n' : Nat} {v : Value} {xs : List Value} {W : World} (h : W.ownsRow base e size v n xs) (hn : n = n') : W.ownsRow base e size v n' xs := hn ▸ h
theorem own_monoA {w : World} {base base' : Nat} {e : TypeId} {size : Nat} {v : Value} {n : Nat} {xs : List Value} (h : w.ownsRow base e size v n xs) (hb : base' ≤ base) : w.ownsRow base' e size v n xs :=
  ⟨h.1, h.2.imp id (fun ⟨g, cap, cur, e1, e2, r⟩ => ⟨g, cap, cur, e1, Nat.le_trans hb e2, r⟩)⟩
theorem own_cells {w : World} {base g n cap : Nat} {e : TypeId} {size : Nat} {xs : List Value} (h : w.ownsRow base e size (.slice (some ⟨g, 0, none⟩) n cap) n xs) : ∀ j u, xs[j]? = some u → w.cell? ⟨g, 0 + j, none⟩ = some u := by
  intro j u hu
  have hj := (List.getElem?_eq_some_iff.1 hu).1
  have h0 := h.1
  obtain ⟨_, A, c, he, _, _, hc⟩ := Rd.of_own h
  cases he
  obtain ⟨b, off, hb, hcc⟩ := hc (by
    rcases Nat.eq_zero_or_pos n with hn | hn
    · subst hn; omega
    · exact hn)
  cases hb
  exact hcc j u hu
theorem own_new (W : World) (T size : Nat) : (W.alloc (.cells #[] T)).ownsRow W.heap.size T size (.slice (some ⟨W.heap.size, 0, none⟩) 0 0) 0 [] :=
  ⟨by simp, .inr ⟨W.heap.size, 0, #[], rfl, Nat.le_refl _, heap_alloc_new W _, Nat.le_refl _, by unfold maxLen; omega, by simp, by simp⟩⟩
end Go.Proofs.YtaikcpidijekpaaDoor
