/- Contracts of the functions that make voices out of arguments, mark them and ask the marks. Conditions: lengths up to 2^20. -/
import Derived.Test.YtaikcpidijekpaaDoorB5
import Derived.Test.YtaikcpidijekpaaDoorB2
namespace Go.Proofs.YtaikcpidijekpaaDoor
open Go.RowKit
set_option linter.unusedSimpArgs false
set_option linter.unusedVariables false
set_option maxHeartbeats 2000000

/-- Six stores, side by side, into a block that is known whole. -/
theorem store6 {w : World} {g : Nat} {cur : Array Value} {T : TypeId} (h : w.heap[g]? = some (.cells cur T (0, 0))) (a : Nat) (v0 v1 v2 v3 v4 v5 : Value) (hs : a + 6 ≤ cur.size) :
    ∃ cur', ((((((w.setCell ⟨g, a, none⟩ v0).setCell ⟨g, a + 1, none⟩ v1).setCell ⟨g, a + 2, none⟩ v2).setCell ⟨g, a + 3, none⟩ v3).setCell ⟨g, a + 4, none⟩ v4).setCell ⟨g, a + 5, none⟩ v5).heap[g]? = some (.cells cur' T (0, 0)) ∧
      cur'.size = cur.size ∧ cur'.toList.take (a + 6) = cur.toList.take a ++ [v0, v1, v2, v3, v4, v5] := by
  refine ⟨(((((cur.setIfInBounds a v0).setIfInBounds (a + 1) v1).setIfInBounds (a + 2) v2).setIfInBounds (a + 3) v3).setIfInBounds (a + 4) v4).setIfInBounds (a + 5) v5, ?_, by simp, ?_⟩
  · simp only [heap_setCell_get, if_true, h, Option.map_some]
  · apply List.ext_getElem?
    intro i
    simp only [Array.toList_setIfInBounds, List.getElem?_take, List.getElem?_set, List.length_set, Array.length_toList, List.getElem?_append, List.length_take]
    by_cases h1 : i < a
    · have : i < min a cur.size := by omega
      simp [this, show i < a + 6 by omega, h1, show ¬ a + 5 = i by omega, show ¬ a + 4 = i by omega, show ¬ a + 3 = i by omega, show ¬ a + 2 = i by omega, show ¬ a + 1 = i by omega, show ¬ a = i by omega]
    · have hn : ¬ i < min a cur.size := by omega
      have hm : min a cur.size = a := by omega
      by_cases h2 : i < a + 6
      · obtain ⟨d, rfl⟩ : ∃ d, i = a + d := ⟨i - a, by omega⟩
        have hd : d = 0 ∨ d = 1 ∨ d = 2 ∨ d = 3 ∨ d = 4 ∨ d = 5 := by omega
        rcases hd with rfl | rfl | rfl | rfl | rfl | rfl <;> simp [hm, show a + 5 < cur.size by omega, show a + 4 < cur.size by omega, show a + 3 < cur.size by omega, show a + 2 < cur.size by omega, show a + 1 < cur.size by omega, show a < cur.size by omega] <;> (try (intro hh; exact absurd hh (by omega)))
      · rw [if_neg h2, if_neg hn, hm, List.getElem?_eq_none (by simp; omega)]
/-- The cells that are there to be written. -/
theorem there6 {w : World} {g : Nat} {cur : Array Value} {T : TypeId} (h : w.heap[g]? = some (.cells cur T (0, 0))) (a : Nat) (hs : a + 6 ≤ cur.size) :
    ∃ u0 u1 u2 u3 u4 u5, w.cell? ⟨g, a, none⟩ = some u0 ∧ w.cell? ⟨g, a + 1, none⟩ = some u1 ∧ w.cell? ⟨g, a + 2, none⟩ = some u2 ∧ w.cell? ⟨g, a + 3, none⟩ = some u3 ∧ w.cell? ⟨g, a + 4, none⟩ = some u4 ∧ w.cell? ⟨g, a + 5, none⟩ = some u5 ∧ ∀ o, w.frozen? ⟨g, o, none⟩ = false := by
  have e := fun j (hj : j < 6) => (cell_of_row w g (a + j) cur T (0, 0) h).trans (Array.getElem?_eq_getElem (show a + j < cur.size by omega))
  exact ⟨_, _, _, _, _, _, e 0 (by omega), e 1 (by omega), e 2 (by omega), e 3 (by omega), e 4 (by omega), e 5 (by omega), (blk_facts h).2⟩
theorem below_store6 {B : Nat} {a w : World} {g o : Nat} (h : Below B a w) (hg : B ≤ g) (v0 v1 v2 v3 v4 v5 : Value) :
    Below B a ((((((w.setCell ⟨g, o, none⟩ v0).setCell ⟨g, o + 1, none⟩ v1).setCell ⟨g, o + 2, none⟩ v2).setCell ⟨g, o + 3, none⟩ v3).setCell ⟨g, o + 4, none⟩ v4).setCell ⟨g, o + 5, none⟩ v5) :=
  (((((h.setCell (p := ⟨g, o, none⟩) hg v0).setCell (p := ⟨g, o + 1, none⟩) hg v1).setCell (p := ⟨g, o + 2, none⟩) hg v2).setCell (p := ⟨g, o + 3, none⟩) hg v3).setCell (p := ⟨g, o + 4, none⟩) hg v4).setCell (p := ⟨g, o + 5, none⟩) hg v5

theorem nts_take_succ (ns : List Nt) (k : Nat) (hk : k < ns.length) : ntCells (ns.take (k + 1)) = ntCells (ns.take k) ++ ns[k].cells := by
  show cellsOf _ _ = _
  rw [List.take_succ_eq_append_getElem hk, cellsOf_append, cellsOf_cons, cellsOf_nil, List.append_nil]
theorem info_nt : (Tryd.prog.info? 29).map (fun i => (i.zero, i.size, i.bytes)) = some (some (.agg #[.bool false, .int .i64 0, .int .i64 0, .int .i64 0, .int .i64 0, .bool false]), 6, 48) := by kernel_rfl
theorem run_make_rowN {P : Program} (t e : TypeId) (i : TypeInfo) (z : Value) (ht : P.underlying t = some (.slice e)) (hi : P.info? e = some i) (hz : i.zero = some z)
    (kl kc : IntKind) (n c : Nat) (hnc : n ≤ c) (hbytes : i.bytes * c ≤ 281474976710656) (h63 : c ≤ 9223372036854775807) (w : World) :
    (Instr.makeSlice t (.int kl (n : Int)) (.int kc (c : Int))).run P w = .ok (.slice (some ⟨w.heap.size, 0, none⟩) n c) (w.alloc (.cells (madeCells z.cells (c * i.size)) e)) := by
  have hb : (i.bytes : Int) * (c : Int) ≤ 281474976710656 := by
    have h : ((i.bytes * c : Nat) : Int) ≤ 281474976710656 := by omega
    rwa [Int.natCast_mul] at h
  have hr := run_make (P := P) w t e i z ht hi hz kl kc n c (by omega) (by omega) hb (by omega)
  simp only [Int.toNat_natCast] at hr
  exact hr
def Made (E size n : Nat) (xs : List Value) (w : World) (e : Ending) (w' : World) : Prop :=
  ∃ v, e = .returned v ∧ w'.ownsRow w.heap.size E size v n xs ∧ Below w.heap.size w w'
theorem c_toNoteS (v : Value) (ns : List Nt) (w : World) (h : Rd w v 6 ns.length (ntCells ns)) (hn : ns.length ≤ 1048576) :
    Calls Tryd.prog 22 #[v] w (Made 29 6 ns.length (ntCells ns) w) := by
  obtain ⟨_, A, c, rfl, hnc, hcm, hA⟩ := h
  unfold maxLen at hcm
  obtain ⟨i0, hi0, hz0, hz1, hz2⟩ := info_parts info_nt
  have hmk := fun W => run_make_rowN (P := Tryd.prog) 45 29 i0 _ Tryd.underlying45 hi0 hz0 .i64 .i64 ns.length ns.length (Nat.le_refl _) (by rw [hz2]; omega) (by omega) W
  have HI := Lib.hid hz1
  rw [hz1] at hmk
  clear hi0 hz0 hz1 hz2
  go_enter Tryd.func22, Tryd.ntmps22
  go_wp2
  clear hmk
  go_loopw [4] (fun i wr => ∃ (k : Nat) (cur : Array Value), k ≤ ns.length ∧ i = .int .i64 k ∧ wr.heap[w.heap.size]? = some (.cells cur 29 (0, 0)) ∧ cur.size = ns.length * 6 ∧ cur.toList.take (k * 6) = ntCells (ns.take k) ∧ Below w.heap.size w wr) (fun i _ => ns.length - (intOf i).toNat)
  case atStart => exact ⟨0, _, Nat.zero_le _, rfl, heap_alloc_new w _, size_madeCells _ _, by simp [cellsOf], bel1 _ _⟩
  case round =>
    obtain ⟨k, cur, hk, rfl, hcur, hsz, htk, hbl⟩ := hrel
    have hz := hbl.size
    have HS := Lib.hid hsz
    have HT := Lib.hid htk
    have hgl : w.heap.size < wr.heap.size := (Array.getElem?_eq_some_iff.1 hcur).1
    have HC := Lib.hid hcur
    clear hsz htk
    by_cases hlt : k < ns.length
    · obtain ⟨b, off, rfl, hcc⟩ := hA (by omega)
      obtain ⟨p0, p1, p2, p3, p4, p5⟩ := nt_at (rd_later hbl hcc) k hlt
      have hX := Lib.hid (nts_take_succ ns k hlt)
      generalize ns[k] = x at *
      obtain ⟨xr, ⟨xs, xa, xo⟩, xt, xd⟩ := x
      clear hA hcc hcur
      go_wp2_with fail
      (go_at_call 11; (with_reducible refine (c_toNote ⟨xr, ⟨xs, xa, xo⟩, xt, xd⟩ _).mono ?_); rintro e wq ⟨rfl, hbq⟩; have hzq := hbq.size; (try simp only [size_alloc', size_setCell', size_drew', size_drewN'] at hzq); skip)
      have hcq := (hbq.block w.heap.size hgl).trans HC.out
      obtain ⟨u0, u1, u2, u3, u4, u5, f0, f1, f2, f3, f4, f5, hfr⟩ := there6 hcq (k * 6) (by rw [HS.out]; omega)
      obtain ⟨cur', hc', hs', ht'⟩ := store6 hcq (k * 6) (.bool xr) (.int .i64 xs) (.int .i64 xa) (.int .i64 xo) (.int .i64 xt) (.bool xd) (by rw [HS.out]; omega)
      have hbl' := below_store6 (o := k * 6) (hbl.trans (hbq.mono hz)) (Nat.le_refl w.heap.size) (.bool xr) (.int .i64 xs) (.int .i64 xa) (.int .i64 xo) (.int .i64 xt) (.bool xd)
      have H1 := Lib.hid hc'
      have H2 := Lib.hid hs'
      have H3 := Lib.hid ht'
      have H4 := Lib.hid hbl'
      clear hc' hs' ht' hcq hbl'
      go_wp2
      go_roundw
      case rel => exact ⟨k + 1, cur', by omega, by go_num, H1.out, H2.out.trans HS.out, by rw [Nat.add_mul, Nat.one_mul, H3.out, HT.out, hX.out]; rfl, H4.out⟩
      case measure => simp [intOf]; omega
    · clear hA hcur
      go_wp2
      go_ret
      refine ⟨_, rfl, ⟨cellsOf_len Nt.cells 6 Nt.cells_len ns, .inr ⟨w.heap.size, ns.length, cur, rfl, Nat.le_refl _, HC.out, Nat.le_refl _, by unfold maxLen; omega, HS.out, ?_⟩⟩, hbl⟩
      have hke : k = ns.length := by omega
      rw [← hke, HT.out, hke, List.take_length]
end Go.Proofs.YtaikcpidijekpaaDoor
