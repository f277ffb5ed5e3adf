/- Chords of the program. Conditions: none. -/
import Derived.Test.YtiameebjcmnmeaaKI
import Derived.Deep.WholeRow
namespace Go.Proofs.Ytiameebjcmnmeaa
open Go.RowKit
set_option linter.unusedSimpArgs false
set_option linter.unusedVariables false
set_option maxHeartbeats 8000000
theorem at_cells {W : World} {b o : Nat} {T : TypeId} {arr : Array Value} {l : List Int} (hb : W.heap[b]? = some (.cells arr T (0, 0))) (hl : ∀ j (h : j < l.length), arr[o + j]? = some (.int .i64 l[j])) :
    ∀ j u, (intCells l)[j]? = some u → W.cell? ⟨b, o + j, none⟩ = some u := by
  intro j u hu
  have hj : j < l.length := by
    by_cases hh : j < l.length
    · exact hh
    · rw [List.getElem?_eq_none (by rw [intCells_lenA]; omega)] at hu; cases hu
  rw [intCells_at, List.getElem?_eq_getElem hj, Option.map_some] at hu
  rw [cell_of_row W b (o + j) _ _ _ hb, hl j hj]
  exact hu
theorem wpList_store_fact {P : Program} {w : World} {ops : Array Oper} {rest : List Oper} {o : Oper} {a : Act} {Q : Exit → Act → World → Prop} (hg : o.guard = none) (t : TypeId) (p x : Operand) (hop : o.op = Op.store t p x) (pv xv : Value) (w' : World)
    (hrun : (Instr.storeAt t pv xv).run P w = .ok () w') (hp : a.eval p = pv) (hx : a.eval x = xv) (hK : wpList P ops Q rest (a.put o.dst undef) w') : wpList P ops Q (o :: rest) a w := by
  refine wpList_plain hg fun K' hK' => ?_
  unfold Oper.wp
  simp [execOp, hop, hp, hx, hrun, Result.andThen]
  exact hK' _ _ hK
def hTab : Array Value := #[.int .i64 0, .int .i64 4, .int .i64 7, .int .i64 0, .int .i64 0, .int .i64 3, .int .i64 7, .int .i64 0, .int .i64 0, .int .i64 3, .int .i64 6, .int .i64 0, .int .i64 0, .int .i64 4, .int .i64 8, .int .i64 0, .int .i64 0, .int .i64 4, .int .i64 7, .int .i64 10, .int .i64 0, .int .i64 4, .int .i64 7, .int .i64 11, .int .i64 0, .int .i64 3, .int .i64 7, .int .i64 10, .int .i64 0, .int .i64 3, .int .i64 6, .int .i64 10, .int .i64 0, .int .i64 3, .int .i64 6, .int .i64 9]
theorem info_tab : (Try.prog.info? 89).map (·.size) = some 36 := by kernel_rfl
theorem hTab_at {n : Nat} (h : n ≤ 8) (j : Nat) (hj : j < (halvesOf n).length) : hTab[n * 4 + j]? = some (.int .i64 ((halvesOf n)[j])) := by
  have h9 : n = 0 ∨ n = 1 ∨ n = 2 ∨ n = 3 ∨ n = 4 ∨ n = 5 ∨ n = 6 ∨ n = 7 ∨ n = 8 := by omega
  rcases h9 with rfl | rfl | rfl | rfl | rfl | rfl | rfl | rfl | rfl
  · have hj4 : j = 0 ∨ j = 1 ∨ j = 2 := by simp [halvesOf] at hj; omega
    rcases hj4 with rfl | rfl | rfl <;> rfl
  · have hj4 : j = 0 ∨ j = 1 ∨ j = 2 := by simp [halvesOf] at hj; omega
    rcases hj4 with rfl | rfl | rfl <;> rfl
  · have hj4 : j = 0 ∨ j = 1 ∨ j = 2 := by simp [halvesOf] at hj; omega
    rcases hj4 with rfl | rfl | rfl <;> rfl
  · have hj4 : j = 0 ∨ j = 1 ∨ j = 2 := by simp [halvesOf] at hj; omega
    rcases hj4 with rfl | rfl | rfl <;> rfl
  · have hj4 : j = 0 ∨ j = 1 ∨ j = 2 ∨ j = 3 := by simp [halvesOf] at hj; omega
    rcases hj4 with rfl | rfl | rfl | rfl <;> rfl
  · have hj4 : j = 0 ∨ j = 1 ∨ j = 2 ∨ j = 3 := by simp [halvesOf] at hj; omega
    rcases hj4 with rfl | rfl | rfl | rfl <;> rfl
  · have hj4 : j = 0 ∨ j = 1 ∨ j = 2 ∨ j = 3 := by simp [halvesOf] at hj; omega
    rcases hj4 with rfl | rfl | rfl | rfl <;> rfl
  · have hj4 : j = 0 ∨ j = 1 ∨ j = 2 ∨ j = 3 := by simp [halvesOf] at hj; omega
    rcases hj4 with rfl | rfl | rfl | rfl <;> rfl
  · have hj4 : j = 0 ∨ j = 1 ∨ j = 2 ∨ j = 3 := by simp [halvesOf] at hj; omega
    rcases hj4 with rfl | rfl | rfl | rfl <;> rfl
set_option maxRecDepth 100000 in
theorem c_chordHalves (n : Nat) (hn : n ≤ 8) (w : World) :
    Calls Try.prog 52 #[.int .i64 (n : Int)] w (IntsOf (halvesOf n) w) := by
  have hlen := halvesOf_len (kind := (n : Int)) (inB_iff.2 ⟨by omega, by omega⟩)
  have HT := Lib.hid (fun j hj => hTab_at hn j hj)
  have h0 := hTab_at hn 0 (by rw [hlen]; split <;> omega)
  obtain ⟨x0, hx0⟩ : ∃ x, (halvesOf n)[0]'(by rw [hlen]; split <;> omega) = x := ⟨_, rfl⟩
  rw [hx0] at h0
  have H0 := Lib.hid h0
  clear h0 hx0
  have hn9 : (n : Int) < 9 := by omega
  have hn0 : (0 : Int) ≤ (n : Int) := by omega
  obtain ⟨W1, hW1⟩ : ∃ W1 : World, W1 = w.alloc (.cells hTab 89) := ⟨_, rfl⟩
  have HST := Lib.hid (show (Instr.storeAt 89 (.pointer (some ⟨w.heap.size, 0, none⟩)) (.agg #[.int .i64 0, .int .i64 4, .int .i64 7, .int .i64 0, .int .i64 0, .int .i64 3, .int .i64 7, .int .i64 0, .int .i64 0, .int .i64 3, .int .i64 6, .int .i64 0, .int .i64 0, .int .i64 4, .int .i64 8, .int .i64 0, .int .i64 0, .int .i64 4, .int .i64 7, .int .i64 10, .int .i64 0, .int .i64 4, .int .i64 7, .int .i64 11, .int .i64 0, .int .i64 3, .int .i64 7, .int .i64 10, .int .i64 0, .int .i64 3, .int .i64 6, .int .i64 10, .int .i64 0, .int .i64 3, .int .i64 6, .int .i64 9])).run Try.prog (w.alloc (.cells #[.int .i64 0, .int .i64 0, .int .i64 0, .int .i64 0, .int .i64 0, .int .i64 0, .int .i64 0, .int .i64 0, .int .i64 0, .int .i64 0, .int .i64 0, .int .i64 0, .int .i64 0, .int .i64 0, .int .i64 0, .int .i64 0, .int .i64 0, .int .i64 0, .int .i64 0, .int .i64 0, .int .i64 0, .int .i64 0, .int .i64 0, .int .i64 0, .int .i64 0, .int .i64 0, .int .i64 0, .int .i64 0, .int .i64 0, .int .i64 0, .int .i64 0, .int .i64 0, .int .i64 0, .int .i64 0, .int .i64 0, .int .i64 0] 89)) = .ok () W1 by
    rw [hW1]; exact run_storeAt_new w 89 #[.int .i64 0, .int .i64 0, .int .i64 0, .int .i64 0, .int .i64 0, .int .i64 0, .int .i64 0, .int .i64 0, .int .i64 0, .int .i64 0, .int .i64 0, .int .i64 0, .int .i64 0, .int .i64 0, .int .i64 0, .int .i64 0, .int .i64 0, .int .i64 0, .int .i64 0, .int .i64 0, .int .i64 0, .int .i64 0, .int .i64 0, .int .i64 0, .int .i64 0, .int .i64 0, .int .i64 0, .int .i64 0, .int .i64 0, .int .i64 0, .int .i64 0, .int .i64 0, .int .i64 0, .int .i64 0, .int .i64 0, .int .i64 0] #[.int .i64 0, .int .i64 4, .int .i64 7, .int .i64 0, .int .i64 0, .int .i64 3, .int .i64 7, .int .i64 0, .int .i64 0, .int .i64 3, .int .i64 6, .int .i64 0, .int .i64 0, .int .i64 4, .int .i64 8, .int .i64 0, .int .i64 0, .int .i64 4, .int .i64 7, .int .i64 10, .int .i64 0, .int .i64 4, .int .i64 7, .int .i64 11, .int .i64 0, .int .i64 3, .int .i64 7, .int .i64 10, .int .i64 0, .int .i64 3, .int .i64 6, .int .i64 10, .int .i64 0, .int .i64 3, .int .i64 6, .int .i64 9] info_tab rfl (by kernel_rfl))
  have HB1 := Lib.hid (show Below w.heap.size w W1 by rw [hW1]; exact bel1 _ _)
  have HH1 := Lib.hid (show W1.heap[w.heap.size]? = some (.cells hTab 89 (0, 0)) by rw [hW1]; exact heap_alloc_new w _)
  have hS1 : W1.heap.size = w.heap.size + 1 := by rw [hW1]; simp
  clear hW1
  have hc0 : W1.cell? ⟨w.heap.size, n * 4, none⟩ = some (.int .i64 x0) := by rw [cell_of_row W1 w.heap.size (n * 4) _ _ _ HH1.out]; exact H0.out
  have HO := Lib.hid (by have := own_new W1 3 1; rw [hS1] at this; exact this)
  have HC := Lib.hid (at_cells (b := w.heap.size) (o := n * 4) (l := halvesOf n) (below_heap (bel1 W1 (.cells #[] 3)) HH1.out) (fun j hj => HT.out j hj))
  by_cases h4 : (n : Int) < 4
  · have HN := Lib.hid (show (halvesOf n).length = 3 by rw [hlen, if_pos h4])
    have HL := Lib.hid (show (intCells (halvesOf n)).length = 3 * 1 by rw [intCells_lenA, HN.out])
    clear hlen
    go_enter Try.func52, Try.ntmps52
    go_wp2_with (first | (refine wpList_store_fact rfl 89 _ _ rfl _ _ _ HST.out rfl rfl ?_) | (at_builtin; go_loud (refine wp_appl (by rfl) (.tmp 16) (.tmp 19) 50 3 rfl _ 1 8 Try.underlying50 info_intK rfl (by decide) (by decide) (w.heap.size + 1) (w.heap.size + 1) 0 0 _ rfl HO.out w.heap.size (n * 4) _ 3 (intCells (halvesOf n)) rfl HL.out HC.out (intCells_one _) (by omega) (by simp only [size_alloc']; omega) ?_)))
    intro g4 cap4 w4 hown4 hgr4 hat4 hlt4
    have HO4 := Lib.hid hown4
    have HB4 := Lib.hid (bel_app (HB1.out.alloc (by omega) _) HO.out hgr4 (Nat.le_succ _) (by simp only [size_alloc']; omega))
    clear hown4 hgr4 hat4
    go_wp2
    go_ret
    exact ⟨_, rfl, by rw [HN.out]; exact own_monoA HO4.out (Nat.le_succ _), HB4.out⟩
  · have HN := Lib.hid (show (halvesOf n).length = 4 by rw [hlen, if_neg h4])
    have HL := Lib.hid (show (intCells (halvesOf n)).length = 4 * 1 by rw [intCells_lenA, HN.out])
    clear hlen
    go_enter Try.func52, Try.ntmps52
    go_wp2_with (first | (refine wpList_store_fact rfl 89 _ _ rfl _ _ _ HST.out rfl rfl ?_) | (at_builtin; go_loud (refine wp_appl (by rfl) (.tmp 21) (.tmp 24) 50 3 rfl _ 1 8 Try.underlying50 info_intK rfl (by decide) (by decide) (w.heap.size + 1) (w.heap.size + 1) 0 0 _ rfl HO.out w.heap.size (n * 4) _ 4 (intCells (halvesOf n)) rfl HL.out HC.out (intCells_one _) (by omega) (by simp only [size_alloc']; omega) ?_)))
    intro g4 cap4 w4 hown4 hgr4 hat4 hlt4
    have HO4 := Lib.hid hown4
    have HB4 := Lib.hid (bel_app (HB1.out.alloc (by omega) _) HO.out hgr4 (Nat.le_succ _) (by simp only [size_alloc']; omega))
    clear hown4 hgr4 hat4
    go_wp2
    go_ret
    exact ⟨_, rfl, by rw [HN.out]; exact own_monoA HO4.out (Nat.le_succ _), HB4.out⟩
end Go.Proofs.Ytiameebjcmnmeaa
