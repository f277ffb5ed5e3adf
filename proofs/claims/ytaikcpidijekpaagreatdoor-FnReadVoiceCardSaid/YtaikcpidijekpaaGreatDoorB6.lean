/- Contracts of the functions that make voices out of arguments, mark them and ask the marks. Conditions: lengths up to 2^20. -/
import Derived.Test.YtaikcpidijekpaaGreatDoorB5
import Derived.Test.YtaikcpidijekpaaGreatDoorB2
namespace Go.Proofs.YtaikcpidijekpaaGreatDoor
open Go.RowKit
set_option linter.unusedSimpArgs false
set_option linter.unusedVariables false
set_option maxHeartbeats 2000000

/-- Six stores, side by side, into a block that is known whole. -/
theorem store6 {w : World} {g : Nat} {cur : Array Value} {T : TypeId} (h : w.heap[g]? = some (.cells cur T (0, 0))) (a : Nat) (v0 v1 v2 v3 v4 v5 : Value) (hs : a + 6 ≤ cur.size) :
    ∃ cur', ((((((w.setCell ⟨g, a, none⟩ v0).setCell ⟨g, a + 1, none⟩ v1).setCell ⟨g, a + 2, none⟩ v2).setCell ⟨g, a + 3, none⟩ v3).setCell ⟨g, a + 4, none⟩ v4).setCell ⟨g, a + 5, none⟩ v5).heap[g]? = some (.cells cur' T (0, 0)) ∧
      cur'.size = cur.size ∧ cur'.toList.take (a + 6) = cur.toList.take a ++ [v0, v1, v2, v3, v4, v5] := by
  refine ⟨(((((cur.setIfInBounds a v0).setIfInBounds (a + 1) v1).setIfInBounds (a + 2) v2).setIfInBounds (a + 3) v3).setIfInBounds (a + 4) v4).setIfInBounds (a + 5) v5, ?_, by simp, ?_⟩
  · simp only [heap_setCell_get, if_true, h, Option.map_some]
  · apply List.ext_getElem?
    intro i
    simp only [Array.toList_setIfInBounds, List.getElem?_take, List.getElem?_set, List.length_set, Array.length_toList, List.getElem?_append, List.length_take]
    by_cases h1 : i < a
    · have : i < min a cur.size := by omega
      simp [this, show i < a + 6 by omega, h1, show ¬ a + 5 = i by omega, show ¬ a + 4 = i by omega, show ¬ a + 3 = i by omega, show ¬ a + 2 = i by omega, show ¬ a + 1 = i by omega, show ¬ a = i by omega]
    · have hn : ¬ i < min a cur.size := by omega
      have hm : min a cur.size = a := by omega
      by_cases h2 : i < a + 6
      · obtain ⟨d, rfl⟩ : ∃ d, i = a + d := ⟨i - a, by omega⟩
        have hd : d = 0 ∨ d = 1 ∨ d = 2 ∨ d = 3 ∨ d = 4 ∨ d = 5 := by omega
        rcases hd with rfl | rfl | rfl | rfl | rfl | rfl <;> simp [hm, show a + 5 < cur.size by omega, show a + 4 < cur.size by omega, show a + 3 < cur.size by omega, show a + 2 < cur.size by omega, show a + 1 < cur.size by omega, show a < cur.size by omega] <;> (try (intro hh; exact absurd hh (by omega)))
      · rw [if_neg h2, if_neg hn, hm, List.getElem?_eq_none (by simp; omega)]
/-- The cells that are there to be written. -/
theorem there6 {w : World} {g : Nat} {cur : Array Value} {T : TypeId} (h : w.heap[g]? = some (.cells cur T (0, 0))) (a : Nat) (hs : a + 6 ≤ cur.size) :
    ∃ u0 u1 u2 u3 u4 u5, w.cell? ⟨g, a, none⟩ = some u0 ∧ w.cell? ⟨g, a + 1, none⟩ = some u1 ∧ w.cell? ⟨g, a + 2, none⟩ = some u2 ∧ w.cell? ⟨g, a + 3, none⟩ = some u3 ∧ w.cell? ⟨g, a + 4, none⟩ = some u4 ∧ w.cell? ⟨g, a + 5, none⟩ = some u5 ∧ ∀ o, w.frozen? ⟨g, o, none⟩ = false := by
  have e := fun j (hj : j < 6) => (cell_of_row w g (a + j) cur T (0, 0) h).trans (Array.getElem?_eq_getElem (show a + j < cur.size by omega))
  exact ⟨_, _, _, _, _, _, e 0 (by omega), e 1 (by omega), e 2 (by omega), e 3 (by omega), e 4 (by omega), e 5 (by omega), (blk_facts h).2⟩
theorem below_store6 {B : Nat} {a w : World} {g o : Nat} (h : Below B a w) (hg : B ≤ g) (v0 v1 v2 v3 v4 v5 : Value) :
    Below B a ((((((w.setCell ⟨g, o, none⟩ v0).setCell ⟨g, o + 1, none⟩ v1).setCell ⟨g, o + 2, none⟩ v2).setCell ⟨g, o + 3, none⟩ v3).setCell ⟨g, o + 4, none⟩ v4).setCell ⟨g, o + 5, none⟩ v5) :=
  (((((h.setCell (p := ⟨g, o, none⟩) hg v0).setCell (p := ⟨g, o + 1, none⟩) hg v1).setCell (p := ⟨g, o + 2, none⟩) hg v2).setCell (p := ⟨g, o + 3, none⟩) hg v3).setCell (p := ⟨g, o + 4, none⟩) hg v4).setCell (p := ⟨g, o + 5, none⟩) hg v5

theorem nts_take_succ (ns : List Nt) (k : Nat) (hk : k < ns.length) : ntCells (ns.take (k + 1)) = ntCells (ns.take k) ++ ns[k].cells := by
  show cellsOf _ _ = _
  rw [List.take_succ_eq_append_getElem hk, cellsOf_append, cellsOf_cons, cellsOf_nil, List.append_nil]
theorem info_nt : (Tryz.prog.info? 42).map (fun i => (i.zero, i.size, i.bytes)) = some (some (.agg #[.bool false, .int .i64 0, .int .i64 0, .int .i64 0, .int .i64 0, .bool false]), 6, 48) := by kernel_rfl
theorem run_make_rowN {P : Program} (t e : TypeId) (i : TypeInfo) (z : Value) (ht : P.underlying t = some (.slice e)) (hi : P.info? e = some i) (hz : i.zero = some z)
    (kl kc : IntKind) (n c : Nat) (hnc : n ≤ c) (hbytes : i.bytes * c ≤ 281474976710656) (h63 : c ≤ 9223372036854775807) (w : World) :
    (Instr.makeSlice t (.int kl (n : Int)) (.int kc (c : Int))).run P w = .ok (.slice (some ⟨w.heap.size, 0, none⟩) n c) (w.alloc (.cells (madeCells z.cells (c * i.size)) e)) := by
  have hb : (i.bytes : Int) * (c : Int) ≤ 281474976710656 := by
    have h : ((i.bytes * c : Nat) : Int) ≤ 281474976710656 := by omega
    rwa [Int.natCast_mul] at h
  have hr := run_make (P := P) w t e i z ht hi hz kl kc n c (by omega) (by omega) hb (by omega)
  simp only [Int.toNat_natCast] at hr
  exact hr
end Go.Proofs.YtaikcpidijekpaaGreatDoor
