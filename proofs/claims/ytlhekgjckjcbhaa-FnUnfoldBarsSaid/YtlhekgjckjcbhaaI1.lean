/- Integers in slices: copying, comparing; ProgressionFault and CadenceOf on both sides; the walks of their exact laws. Conditions: lengths up to 2^20 where the law says so. -/
import Derived.Test.YtlhekgjckjcbhaaB2
namespace Go.Proofs.Ytlhekgjckjcbhaa
open Go.RowKit
set_option linter.unusedSimpArgs false
set_option linter.unusedVariables false
set_option maxHeartbeats 2000000

theorem rd_later {w wr : World} {b off : Nat} {xs : List Value} (hbl : Below w.heap.size w wr) (hcc : ∀ j u, xs[j]? = some u → w.cell? ⟨b, off + j, none⟩ = some u) :
    ∀ j u, xs[j]? = some u → wr.cell? ⟨b, off + j, none⟩ = some u := fun j u hu => below_cell hbl (hcc j u hu)
theorem int_at {w : World} {b off : Nat} {l : List Int} (hc : ∀ j u, (intCells l)[j]? = some u → w.cell? ⟨b, off + j, none⟩ = some u) (k : Nat) (hk : k < l.length) :
    w.cell? ⟨b, off + k, none⟩ = some (.int .i64 l[k]) := by
  have h := cellsOf_get (fun b => [Value.int .i64 b]) 1 (fun _ => rfl) l k 0 (by omega) hk
  exact hc k _ (by simpa using h)
theorem intCells_map (l : List Int) : intCells l = l.map (Value.int .i64) := by
  induction l with
  | nil => rfl
  | cons a l ih => show cellsOf _ _ = _; rw [cellsOf_cons, List.map_cons]; show [_] ++ intCells l = _; rw [ih]; rfl
theorem ints_take_succ (l : List Int) (k : Nat) (hk : k < l.length) : intCells (l.take (k + 1)) = intCells (l.take k) ++ [.int .i64 l[k]] := by
  rw [intCells_map, intCells_map, List.take_succ_eq_append_getElem hk, List.map_append]
  rfl
theorem run_make_rowN {P : Program} (t e : TypeId) (i : TypeInfo) (z : Value) (ht : P.underlying t = some (.slice e)) (hi : P.info? e = some i) (hz : i.zero = some z)
    (kl kc : IntKind) (n c : Nat) (hnc : n ≤ c) (hbytes : i.bytes * c ≤ 281474976710656) (h63 : c ≤ 9223372036854775807) (w : World) :
    (Instr.makeSlice t (.int kl (n : Int)) (.int kc (c : Int))).run P w = .ok (.slice (some ⟨w.heap.size, 0, none⟩) n c) (w.alloc (.cells (madeCells z.cells (c * i.size)) e)) := by
  have hb : (i.bytes : Int) * (c : Int) ≤ 281474976710656 := by
    have h : ((i.bytes * c : Nat) : Int) ≤ 281474976710656 := by omega
    rwa [Int.natCast_mul] at h
  have hr := run_make (P := P) w t e i z ht hi hz kl kc n c (by omega) (by omega) hb (by omega)
  simp only [Int.toNat_natCast] at hr
  exact hr
def Made (E size n : Nat) (xs : List Value) (w : World) (e : Ending) (w' : World) : Prop :=
  ∃ v, e = .returned v ∧ w'.ownsRow w.heap.size E size v n xs ∧ Below w.heap.size w w'
theorem store1 {w : World} {g : Nat} {cur : Array Value} {T : TypeId} (h : w.heap[g]? = some (.cells cur T (0, 0))) (a : Nat) (v0 : Value) (hs : a + 1 ≤ cur.size) :
    ∃ cur', (w.setCell ⟨g, a, none⟩ v0).heap[g]? = some (.cells cur' T (0, 0)) ∧ cur'.size = cur.size ∧ cur'.toList.take (a + 1) = cur.toList.take a ++ [v0] := by
  refine ⟨cur.setIfInBounds a v0, ?_, by simp, ?_⟩
  · simp only [heap_setCell_get, if_true, h, Option.map_some]
  · rw [Array.toList_setIfInBounds, List.take_succ_eq_append_getElem (by simp; omega), List.take_set_of_le (by omega)]
    simp
theorem info_int : (Try.prog.info? 3).map (fun i => (i.zero, i.size, i.bytes)) = some (some (.int .i64 0), 1, 8) := by kernel_rfl
theorem c_toIntS (v : Value) (l : List Int) (w : World) (h : Rd w v 1 l.length (intCells l)) (hn : l.length ≤ 1048576) :
    Calls Try.prog 76 #[v] w (Made 3 1 l.length (intCells l) w) := by
  obtain ⟨_, A, c, rfl, hnc, hcm, hA⟩ := h
  unfold maxLen at hcm
  obtain ⟨i0, hi0, hz0, hz1, hz2⟩ := info_parts info_int
  have hmk := fun W => run_make_rowN (P := Try.prog) 41 3 i0 _ Try.underlying41 hi0 hz0 .i64 .i64 l.length l.length (Nat.le_refl _) (by rw [hz2]; omega) (by omega) W
  rw [hz1] at hmk
  clear hi0 hz0 hz1 hz2
  go_enter Try.func76, Try.ntmps76
  go_wp2
  clear hmk
  go_loopw [4] (fun i wr => ∃ (k : Nat) (cur : Array Value), k ≤ l.length ∧ i = .int .i64 k ∧ wr.heap[w.heap.size]? = some (.cells cur 3 (0, 0)) ∧ cur.size = l.length ∧ cur.toList.take k = intCells (l.take k) ∧ Below w.heap.size w wr) (fun i _ => l.length - (intOf i).toNat)
  case atStart => exact ⟨0, _, Nat.zero_le _, rfl, heap_alloc_new w _, (size_madeCells _ _).trans (by simp), by simp [cellsOf], bel1 _ _⟩
  case round =>
    obtain ⟨k, cur, hk, rfl, hcur, hsz, htk, hbl⟩ := hrel
    have HS := Lib.hid hsz
    have HT := Lib.hid htk
    have HC := Lib.hid hcur
    clear hsz htk
    by_cases hlt : k < l.length
    · obtain ⟨b, off, rfl, hcc⟩ := hA (by omega)
      have p0 := int_at (rd_later hbl hcc) k hlt
      have hX := Lib.hid (ints_take_succ l k hlt)
      generalize l[k] = x at *
      have f0 := (cell_of_row wr w.heap.size k cur 3 (0, 0) hcur).trans (Array.getElem?_eq_getElem (show k < cur.size by rw [HS.out]; exact hlt))
      have hfr := (blk_facts hcur).2
      generalize cur[k]'_ = u0 at f0
      obtain ⟨cur', hc', hs', ht'⟩ := store1 hcur k (.int .i64 x) (by rw [HS.out]; omega)
      have H1 := Lib.hid hc'
      have H2 := Lib.hid hs'
      have H3 := Lib.hid ht'
      have H4 := Lib.hid (hbl.setCell (p := ⟨w.heap.size, k, none⟩) (Nat.le_refl _) (.int .i64 x))
      clear hA hcc hcur hc' hs' ht'
      go_wp2
      go_roundw
      case rel => exact ⟨k + 1, cur', by omega, by go_num, H1.out, H2.out.trans HS.out, by rw [H3.out, HT.out, hX.out], H4.out⟩
      case measure => simp [intOf]; omega
    · clear hA hcur
      go_wp2
      go_ret
      refine ⟨_, rfl, ⟨cellsOf_len _ 1 (fun _ => rfl) l, .inr ⟨w.heap.size, l.length, cur, rfl, Nat.le_refl _, HC.out, Nat.le_refl _, by unfold maxLen; omega, by rw [HS.out, Nat.mul_one], ?_⟩⟩, hbl⟩
      have hke : k = l.length := by omega
      rw [Nat.mul_one, ← hke, HT.out, hke, List.take_length]
theorem c_eqIntS (u v : Value) (la lb : List Int) (w : World) (ha : Rd w u 1 la.length (intCells la)) (hb : Rd w v 1 lb.length (intCells lb)) :
    Calls Try.prog 77 #[u, v] w fun e w' => e = .returned (.bool (decide (la = lb))) ∧ Below w.heap.size w w' := by
  obtain ⟨_, A1, c1, rfl, hn1, hm1, hA1⟩ := ha
  obtain ⟨_, A2, c2, rfl, hn2, hm2, hA2⟩ := hb
  unfold maxLen at hm1 hm2
  by_cases hl : la.length = lb.length
  · have hl' := Lib.hid hl
    have hle : la.length ≤ lb.length := by omega
    have hle' : lb.length ≤ la.length := by omega
    have hln : ((la.length : Int) != (lb.length : Int)) = false := by simp; omega
    clear hl
    go_enter Try.func77, Try.ntmps77
    go_wp2
    go_loopw [5] (fun i wr => ∃ k : Nat, k ≤ la.length ∧ i = .int .i64 k ∧ Below w.heap.size w wr ∧ ∀ i (h1 : i < la.length) (h2 : i < lb.length), i < k → la[i] = lb[i]) (fun i _ => la.length - (intOf i).toNat)
    case atStart => exact ⟨0, Nat.zero_le _, rfl, Below.refl _ _, fun i _ _ hi => absurd hi (by omega)⟩
    case round =>
      obtain ⟨k, hk, rfl, hbl, hok⟩ := hrel
      have HOK := Lib.hid hok
      clear hok
      by_cases hlt : k < la.length
      · have hlt2 : k < lb.length := by omega
        obtain ⟨b1, f1, rfl, hc1⟩ := hA1 (by omega)
        obtain ⟨b2, f2, rfl, hc2⟩ := hA2 (by omega)
        have p0 := int_at (rd_later hbl hc1) k hlt
        have q0 := int_at (rd_later hbl hc2) k hlt2
        have HE := Lib.hid (show la[k] ≠ lb[k] → decide (la = lb) = false by
          intro hne; simp only [decide_eq_false_iff_not]; intro e; subst e; exact hne rfl)
        have HS := Lib.hid (show la[k] = lb[k] → ∀ i (h1 : i < la.length) (h2 : i < lb.length), i < k + 1 → la[i] = lb[i] by
          intro he i h1 h2 hi
          rcases Nat.lt_succ_iff_lt_or_eq.1 hi with h3 | rfl
          · exact HOK.out i h1 h2 h3
          · exact he)
        have hi1 : (0 : Int) ≤ (k : Int) := by omega
        have hi2 : (k : Int) < (la.length : Int) := by omega
        have hi3 : (k : Int) < (lb.length : Int) := by omega
        generalize la[k] = x at *
        generalize lb[k] = y at *
        clear hA1 hA2 hc1 hc2
        by_cases hxy : x = y
        · have HF := Lib.hid (HS.out hxy)
          subst hxy
          go_wp2_with fail
          go_quiet (fail)
          go_wp2
          go_roundw
          case rel => exact ⟨k + 1, by omega, by go_num, by (repeat' (first | (with_reducible exact Below.refl _ _) | (with_reducible refine Below.setCell ?_ ?_ _) | (with_reducible refine Below.alloc ?_ ?_ _) | (with_reducible refine Below.drew ?_) | (with_reducible refine below_drewN ?_ _) | (with_reducible refine Below.trans ?_ (Below.mono (by with_reducible assumption) ?_)) | omega | (simp only [size_alloc', size_setCell', size_drew', size_drewN'] at *; omega))), HF.out⟩
          case measure => simp [intOf]; omega
        · have HF := Lib.hid (HE.out hxy)
          have hb : (x != y) = true := by simpa using hxy
          go_wp2_with fail
          go_quiet (fail)
          go_wp2
          go_ret
          exact ⟨ret_bool HF.out.symm, by (repeat' (first | (with_reducible exact Below.refl _ _) | (with_reducible refine Below.setCell ?_ ?_ _) | (with_reducible refine Below.alloc ?_ ?_ _) | (with_reducible refine Below.drew ?_) | (with_reducible refine below_drewN ?_ _) | (with_reducible refine Below.trans ?_ (Below.mono (by with_reducible assumption) ?_)) | omega | (simp only [size_alloc', size_setCell', size_drew', size_drewN'] at *; omega)))⟩
      · clear hA1 hA2
        go_wp2
        go_ret
        exact ⟨ret_bool (by symm; simp only [decide_eq_true_eq]; exact List.ext_getElem hl'.out (fun i h1 h2 => HOK.out i h1 h2 (by omega))), hbl⟩
  · have hln : ((la.length : Int) != (lb.length : Int)) = true := by simp; omega
    clear hA1 hA2
    go_enter Try.func77, Try.ntmps77
    go_wp2
    go_ret
    exact ⟨ret_bool (by symm; simp only [decide_eq_false_iff_not]; intro e; exact hl (by rw [e])), Below.refl _ _⟩
end Go.Proofs.Ytlhekgjckjcbhaa
