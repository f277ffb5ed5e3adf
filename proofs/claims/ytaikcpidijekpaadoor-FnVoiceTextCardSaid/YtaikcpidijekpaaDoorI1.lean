/- Integers in slices: copying, comparing; ProgressionFault and CadenceOf on both sides; the walks of their exact laws. Conditions: lengths up to 2^20 where the law says so. -/
import Derived.Test.YtaikcpidijekpaaDoorB2
namespace Go.Proofs.YtaikcpidijekpaaDoor
open Go.RowKit
set_option linter.unusedSimpArgs false
set_option linter.unusedVariables false
set_option maxHeartbeats 2000000

theorem rd_later {w wr : World} {b off : Nat} {xs : List Value} (hbl : Below w.heap.size w wr) (hcc : ∀ j u, xs[j]? = some u → w.cell? ⟨b, off + j, none⟩ = some u) :
    ∀ j u, xs[j]? = some u → wr.cell? ⟨b, off + j, none⟩ = some u := fun j u hu => below_cell hbl (hcc j u hu)
theorem int_at {w : World} {b off : Nat} {l : List Int} (hc : ∀ j u, (intCells l)[j]? = some u → w.cell? ⟨b, off + j, none⟩ = some u) (k : Nat) (hk : k < l.length) :
    w.cell? ⟨b, off + k, none⟩ = some (.int .i64 l[k]) := by
  have h := cellsOf_get (fun b => [Value.int .i64 b]) 1 (fun _ => rfl) l k 0 (by omega) hk
  exact hc k _ (by simpa using h)
theorem intCells_map (l : List Int) : intCells l = l.map (Value.int .i64) := by
  induction l with
  | nil => rfl
  | cons a l ih => show cellsOf _ _ = _; rw [cellsOf_cons, List.map_cons]; show [_] ++ intCells l = _; rw [ih]; rfl
theorem ints_take_succ (l : List Int) (k : Nat) (hk : k < l.length) : intCells (l.take (k + 1)) = intCells (l.take k) ++ [.int .i64 l[k]] := by
  rw [intCells_map, intCells_map, List.take_succ_eq_append_getElem hk, List.map_append]
  rfl
theorem run_make_rowN {P : Program} (t e : TypeId) (i : TypeInfo) (z : Value) (ht : P.underlying t = some (.slice e)) (hi : P.info? e = some i) (hz : i.zero = some z)
    (kl kc : IntKind) (n c : Nat) (hnc : n ≤ c) (hbytes : i.bytes * c ≤ 281474976710656) (h63 : c ≤ 9223372036854775807) (w : World) :
    (Instr.makeSlice t (.int kl (n : Int)) (.int kc (c : Int))).run P w = .ok (.slice (some ⟨w.heap.size, 0, none⟩) n c) (w.alloc (.cells (madeCells z.cells (c * i.size)) e)) := by
  have hb : (i.bytes : Int) * (c : Int) ≤ 281474976710656 := by
    have h : ((i.bytes * c : Nat) : Int) ≤ 281474976710656 := by omega
    rwa [Int.natCast_mul] at h
  have hr := run_make (P := P) w t e i z ht hi hz kl kc n c (by omega) (by omega) hb (by omega)
  simp only [Int.toNat_natCast] at hr
  exact hr
def MadeI (E size n : Nat) (xs : List Value) (w : World) (e : Ending) (w' : World) : Prop :=
  ∃ v, e = .returned v ∧ w'.ownsRow w.heap.size E size v n xs ∧ Below w.heap.size w w'
theorem store1 {w : World} {g : Nat} {cur : Array Value} {T : TypeId} (h : w.heap[g]? = some (.cells cur T (0, 0))) (a : Nat) (v0 : Value) (hs : a + 1 ≤ cur.size) :
    ∃ cur', (w.setCell ⟨g, a, none⟩ v0).heap[g]? = some (.cells cur' T (0, 0)) ∧ cur'.size = cur.size ∧ cur'.toList.take (a + 1) = cur.toList.take a ++ [v0] := by
  refine ⟨cur.setIfInBounds a v0, ?_, by simp, ?_⟩
  · simp only [heap_setCell_get, if_true, h, Option.map_some]
  · rw [Array.toList_setIfInBounds, List.take_succ_eq_append_getElem (by simp; omega), List.take_set_of_le (by omega)]
    simp
end Go.Proofs.YtaikcpidijekpaaDoor
