/- Lists of sections: copies, comparing; the walk of FnExactSectionsValid. Conditions: lengths up to 2^20 where copied. -/
import Derived.Test.YtlhekgjckjcbhaaS3
namespace Go.Proofs.Ytlhekgjckjcbhaa
open Go.RowKit
set_option linter.unusedSimpArgs false
set_option linter.unusedVariables false
set_option maxHeartbeats 4000000

/-- Three stores, side by side, into a block that is known whole. -/
theorem store3 {w : World} {g : Nat} {cur : Array Value} {T : TypeId} (h : w.heap[g]? = some (.cells cur T (0, 0))) (a : Nat) (v0 v1 v2 : Value) (hs : a + 3 ≤ cur.size) :
    ∃ cur', (((w.setCell ⟨g, a, none⟩ v0).setCell ⟨g, a + 1, none⟩ v1).setCell ⟨g, a + 2, none⟩ v2).heap[g]? = some (.cells cur' T (0, 0)) ∧
      cur'.size = cur.size ∧ cur'.toList.take (a + 3) = cur.toList.take a ++ [v0, v1, v2] := by
  refine ⟨((cur.setIfInBounds a v0).setIfInBounds (a + 1) v1).setIfInBounds (a + 2) v2, ?_, by simp, ?_⟩
  · simp only [heap_setCell_get, if_true, h, Option.map_some]
  · apply List.ext_getElem?
    intro i
    simp only [Array.toList_setIfInBounds, List.getElem?_take, List.getElem?_set, List.length_set, Array.length_toList, List.getElem?_append, List.length_take]
    by_cases h1 : i < a
    · have : i < min a cur.size := by omega
      simp [this, show i < a + 3 by omega, h1, show ¬ a + 2 = i by omega, show ¬ a + 1 = i by omega, show ¬ a = i by omega]
    · have hn : ¬ i < min a cur.size := by omega
      have hm : min a cur.size = a := by omega
      by_cases h2 : i < a + 3
      · obtain ⟨d, rfl⟩ : ∃ d, i = a + d := ⟨i - a, by omega⟩
        have hd : d = 0 ∨ d = 1 ∨ d = 2 := by omega
        rcases hd with rfl | rfl | rfl <;> simp [hm, show a + 2 < cur.size by omega, show a + 1 < cur.size by omega, show a < cur.size by omega] <;> (try (intro hh; exact absurd hh (by omega)))
      · rw [if_neg h2, if_neg hn, hm, List.getElem?_eq_none (by simp; omega)]
/-- The cells that are there to be written. -/
theorem there3 {w : World} {g : Nat} {cur : Array Value} {T : TypeId} (h : w.heap[g]? = some (.cells cur T (0, 0))) (a : Nat) (hs : a + 3 ≤ cur.size) :
    ∃ u0 u1 u2, w.cell? ⟨g, a, none⟩ = some u0 ∧ w.cell? ⟨g, a + 1, none⟩ = some u1 ∧ w.cell? ⟨g, a + 2, none⟩ = some u2 ∧ ∀ o, w.frozen? ⟨g, o, none⟩ = false := by
  have e := fun j (hj : j < 3) => (cell_of_row w g (a + j) cur T (0, 0) h).trans (Array.getElem?_eq_getElem (show a + j < cur.size by omega))
  exact ⟨_, _, _, e 0 (by omega), e 1 (by omega), e 2 (by omega), (blk_facts h).2⟩
theorem below_store3 {B : Nat} {a w : World} {g o : Nat} (h : Below B a w) (hg : B ≤ g) (v0 v1 v2 : Value) :
    Below B a (((w.setCell ⟨g, o, none⟩ v0).setCell ⟨g, o + 1, none⟩ v1).setCell ⟨g, o + 2, none⟩ v2) :=
  ((h.setCell (p := ⟨g, o, none⟩) hg v0).setCell (p := ⟨g, o + 1, none⟩) hg v1).setCell (p := ⟨g, o + 2, none⟩) hg v2
theorem own_bel {base e size n : Nat} {v : Value} {xs : List Value} {w w' : World} (h : w.ownsRow base e size v n xs) (hb : Below w.heap.size w w') : w'.ownsRow base e size v n xs :=
  h.kept (row := none) ⟨hb.os, hb.tape, hb.output, hb.size, fun k hk _ => hb.block k hk⟩ (by cases hv : v.ownBlock <;> simp)
theorem own_store3 {base e size n g o : Nat} {v : Value} {xs : List Value} {w : World} (h : w.ownsRow base e size v n xs) (hg : g < base) (v0 v1 v2 : Value) :
    (((w.setCell ⟨g, o, none⟩ v0).setCell ⟨g, o + 1, none⟩ v1).setCell ⟨g, o + 2, none⟩ v2).ownsRow base e size v n xs :=
  ownsRow_setCell_below (ownsRow_setCell_below (ownsRow_setCell_below h hg _) hg _) hg _
theorem info_sec : (Try.prog.info? 43).map (fun i => (i.zero, i.size, i.bytes)) = some (some (.agg #[.int .i64 0, .int .i64 0, .slice none 0 0]), 3, 40) := by kernel_rfl
/-- Copies: the same data, in memory of the call's own. -/
def MadeSecs (ss : List Sec) (w : World) (e : Ending) (w' : World) : Prop :=
  ∃ v ss', e = .returned v ∧ List.map Sec.d ss' = ss.map Sec.d ∧ w'.ownsRow w.heap.size 43 3 v ss'.length (secCells ss') ∧
    (∀ s ∈ ss', w'.ownsRow (w.heap.size + 1) 3 1 s.v s.l.length (intCells s.l)) ∧ Below w.heap.size w w'
theorem map_d_len {a b : List Sec} (h : List.map Sec.d a = b.map Sec.d) : a.length = b.length := by
  have := congrArg List.length h
  simpa using this
theorem secs_snoc (ss : List Sec) (s : Sec) : secCells (ss ++ [s]) = secCells ss ++ s.cells := by
  show cellsOf _ _ = _
  rw [cellsOf_append, cellsOf_cons, cellsOf_nil, List.append_nil]
theorem map_d_snoc {ss ss' : List Sec} {k : Nat} (hk : k < ss.length) (h : List.map Sec.d ss' = (ss.take k).map Sec.d) (s : Sec) (hs : s.d = ss[k].d) : List.map Sec.d (ss' ++ [s]) = (ss.take (k + 1)).map Sec.d := by
  rw [List.take_succ_eq_append_getElem hk, List.map_append, List.map_append, h]
  simp [hs]
theorem c_toSectionS (v : Value) (ss : List Sec) (w : World) (h : RdS w v ss) (hn : ss.length ≤ 1048576) (hs : ∀ s ∈ ss, s.l.length ≤ 1048576) :
    Calls Try.prog 27 #[v] w (MadeSecs ss w) := by
  obtain ⟨⟨_, A, c, rfl, hnc, hcm, hA⟩, hg⟩ := h
  unfold maxLen at hcm
  have HG := Lib.hid hg
  have HL := Lib.hid hs
  clear hg hs
  obtain ⟨i0, hi0, hz0, hz1, hz2⟩ := info_parts info_sec
  have hmk := fun W => run_make_rowN (P := Try.prog) 52 43 i0 _ Try.underlying52 hi0 hz0 .i64 .i64 ss.length ss.length (Nat.le_refl _) (by rw [hz2]; omega) (by omega) W
  rw [hz1] at hmk
  clear hi0 hz0 hz1 hz2
  go_enter Try.func27, Try.ntmps27
  go_wp2
  clear hmk
  go_loopw [4] (fun i wr => ∃ (k : Nat) (cur : Array Value) (ss' : List Sec), k ≤ ss.length ∧ i = .int .i64 k ∧ wr.heap[w.heap.size]? = some (.cells cur 43 (0, 0)) ∧ cur.size = ss.length * 3 ∧ ss'.length = k ∧ cur.toList.take (k * 3) = secCells ss' ∧
      List.map Sec.d ss' = (ss.take k).map Sec.d ∧ (∀ s ∈ ss', wr.ownsRow (w.heap.size + 1) 3 1 s.v s.l.length (intCells s.l)) ∧ Below w.heap.size w wr) (fun i _ => ss.length - (intOf i).toNat)
  case atStart => exact ⟨0, _, [], Nat.zero_le _, rfl, heap_alloc_new w _, size_madeCells _ _, rfl, by simp [cellsOf], by simp, by simp, bel1 _ _⟩
  case round =>
    obtain ⟨k, cur, ss', hk, rfl, hcur, hsz, hle, htk, hmp, hin, hbl⟩ := hrel
    have hz := hbl.size
    have hgl : w.heap.size < wr.heap.size := (Array.getElem?_eq_some_iff.1 hcur).1
    have HS := Lib.hid hsz
    have HT := Lib.hid htk
    have HC := Lib.hid hcur
    have HM := Lib.hid hmp
    have HI := Lib.hid hin
    have HE := Lib.hid hle
    clear hsz htk hmp hin hle
    by_cases hlt : k < ss.length
    · obtain ⟨b, off, rfl, hcc⟩ := hA (by omega)
      obtain ⟨p0, p1, p2⟩ := sec_at (rd_later hbl hcc) k hlt
      have HX := Lib.hid (Rd.below (HG.out _ (List.getElem_mem hlt)) (Nat.le_refl _) hbl)
      have hl := HL.out _ (List.getElem_mem hlt)
      have HN := Lib.hid (fun s hs => map_d_snoc hlt HM.out s hs)
      generalize ss[k] = s at *
      obtain ⟨sb, st, sv, sl⟩ := s
      dsimp only at hl
      clear hA hcc hcur
      go_wp2_with fail
      (go_at_call 59; (with_reducible refine (c_toSection sb st _ sl _ HX.out hl).mono ?_); rintro e wq ⟨v2, rfl, hown, hbq⟩)
      obtain ⟨_, A2, cc2, rfl, -, -, -⟩ := Rd.of_own hown
      have hcq := (hbq.block w.heap.size hgl).trans HC.out
      have hO2 := Lib.hid (own_mono hown hgl)
      have hO1 := Lib.hid (fun s hs => own_bel (HI.out s hs) hbq)
      obtain ⟨u0, u1, u2, f0, f1, f2, hfr⟩ := there3 hcq (k * 3) (by rw [HS.out]; omega)
      obtain ⟨cur', hc', hs', ht'⟩ := store3 hcq (k * 3) (.int .i64 sb) (.int .i64 st) (.slice A2 sl.length cc2) (by rw [HS.out]; omega)
      have hbl' := below_store3 (o := k * 3) (hbl.trans (hbq.mono hz)) (Nat.le_refl w.heap.size) (.int .i64 sb) (.int .i64 st) (.slice A2 sl.length cc2)
      have H1 := Lib.hid hc'
      have H2 := Lib.hid hs'
      have H3 := Lib.hid ht'
      have H4 := Lib.hid hbl'
      clear hown hc' hs' ht' hcq hbl'
      go_wp2
      go_roundw
      case rel =>
        refine ⟨k + 1, cur', ss' ++ [⟨sb, st, .slice A2 sl.length cc2, sl⟩], by omega, by go_num, H1.out, H2.out.trans HS.out, by simp [HE.out], by rw [Nat.add_mul, Nat.one_mul, H3.out, HT.out, secs_snoc]; rfl, HN.out _ rfl, ?_, H4.out⟩
        intro s hs
        rcases List.mem_append.1 hs with h1 | h1
        · exact own_store3 (hO1.out s h1) (Nat.lt_succ_self _) _ _ _
        · rw [List.mem_singleton.1 h1]; exact own_store3 hO2.out (Nat.lt_succ_self _) _ _ _
      case measure => simp [intOf]; omega
    · clear hA hcur
      go_wp2
      go_ret
      have hke : k = ss.length := by omega
      have hM := HM.out
      rw [hke, List.take_length] at hM
      have hE := HE.out
      refine ⟨.slice (some ⟨w.heap.size, 0, none⟩) ss.length ss.length, ss', rfl, hM, ⟨cellsOf_len Sec.cells 3 Sec.cells_len ss', .inr ⟨w.heap.size, ss.length, cur, by rw [hE, hke], Nat.le_refl _, HC.out, by omega, by unfold maxLen; omega, HS.out, ?_⟩⟩, HI.out, hbl⟩
      rw [hE]; exact HT.out
theorem c_eqSectionS (u v : Value) (la lb : List Sec) (w : World) (ha : RdS w u la) (hb : RdS w v lb) (hd : List.map Sec.d la = lb.map Sec.d) :
    Calls Try.prog 31 #[u, v] w fun e w' => e = .returned (.bool true) ∧ Below w.heap.size w w' := by
  have hl := map_d_len hd
  obtain ⟨⟨_, A1, c1, rfl, hn1, hm1, hA1⟩, hg1⟩ := ha
  obtain ⟨⟨_, A2, c2, rfl, hn2, hm2, hA2⟩, hg2⟩ := hb
  unfold maxLen at hm1 hm2
  have HD := Lib.hid (fun i (h1 : i < la.length) (h2 : i < lb.length) => show la[i].d = lb[i].d by
    have := List.getElem_of_eq hd (i := i) (by simpa using h1)
    simpa using this)
  have HG1 := Lib.hid hg1
  have HG2 := Lib.hid hg2
  have hle : la.length ≤ lb.length := by omega
  have hle' : lb.length ≤ la.length := by omega
  have hln : ((la.length : Int) != (lb.length : Int)) = false := by simp; omega
  clear hd hl hg1 hg2
  go_enter Try.func31, Try.ntmps31
  go_wp2
  go_loopw [5] (fun i wr => ∃ k : Nat, k ≤ la.length ∧ i = .int .i64 k ∧ Below w.heap.size w wr) (fun i _ => la.length - (intOf i).toNat)
  case atStart => exact ⟨0, Nat.zero_le _, rfl, Below.refl _ _⟩
  case round =>
    obtain ⟨k, hk, rfl, hbl⟩ := hrel
    have hz := hbl.size
    by_cases hlt : k < la.length
    · have hlt2 : k < lb.length := by omega
      obtain ⟨b1, f1, rfl, hc1⟩ := hA1 (by omega)
      obtain ⟨b2, f2, rfl, hc2⟩ := hA2 (by omega)
      obtain ⟨p0, p1, p2⟩ := sec_at (rd_later hbl hc1) k hlt
      obtain ⟨q0, q1, q2⟩ := sec_at (rd_later hbl hc2) k hlt2
      have HX := Lib.hid (Rd.below (HG1.out _ (List.getElem_mem hlt)) (Nat.le_refl _) hbl)
      have HY := Lib.hid (Rd.below (HG2.out _ (List.getElem_mem hlt2)) (Nat.le_refl _) hbl)
      have hE := HD.out k hlt hlt2
      generalize la[k] = x at *
      generalize lb[k] = y at *
      obtain ⟨xb, xt, xv, xl⟩ := x
      obtain ⟨yb, yt, yv, yl⟩ := y
      injection hE with e1 e2 e3
      dsimp only at e1 e2 e3
      subst e1 e2 e3
      clear hA1 hA2 hc1 hc2
      go_wp2_with fail
      (refine wp_region_more_lit (by kernel_rfl) (by kernel_rfl) ?_; (repeat (go_big_quiet_step ((go_at_call 62; with_reducible exact Calls.more_of (c_eqSection xb xt _ _ xl _ (HX.out.below (Nat.le_refl _) (more_below _ _)) (HY.out.below (Nat.le_refl _) (more_below _ _))))))); refine wpQuiet_nil ?_; intro wq hwq; have hbq := below_of_more hwq; clear hwq; have hzq := hbq.size; (try simp only [size_alloc', size_setCell', size_drew', size_drewN'] at hzq); (try (refine keep_heap (b := w.heap.size) hbq ?_ ?_; (first | omega | (simp only [size_alloc', size_setCell', size_drew', size_drewN']; omega)); intro hkq; simp only [heap_alloc_get, heap_setCell_get, heap_drew_get, heap_drewN_get, size_alloc', size_setCell', size_drew', size_drewN', nat_simp1, nat_simp2, nat_simp3, nat_simp4, nat_simp5, if_true, if_false, *] at hkq; obtain ⟨_, _⟩ := blk_facts hkq)); skip)
      go_wp2
      go_roundw
      case rel => exact ⟨k + 1, by omega, by go_num, by (repeat' (first | (with_reducible exact Below.refl _ _) | (with_reducible refine Below.setCell ?_ ?_ _) | (with_reducible refine Below.alloc ?_ ?_ _) | (with_reducible refine Below.drew ?_) | (with_reducible refine below_drewN ?_ _) | (with_reducible refine Below.trans ?_ (Below.mono (by with_reducible assumption) ?_)) | omega | (simp only [size_alloc', size_setCell', size_drew', size_drewN'] at *; omega)))⟩
      case measure => simp [intOf]; omega
    · clear hA1 hA2
      go_wp2
      go_ret
      exact ⟨rfl, hbl⟩
theorem c_szSectionS_top (v : Value) (ss : List Sec) (w : World) (h : RdS w v ss) :
    Calls Try.prog 24 #[v, .int .i64 1048576] w fun e w' => e = .returned (.int .i64 (szVal (szS 1048576 ss))) ∧ Below w.heap.size w w' :=
  c_szSectionS v ss 1048576 w h (Nat.le_refl _)
theorem RdS.of_own {base : Nat} {w : World} {v : Value} {ss : List Sec} {B E F : Nat} (h : w.ownsRow base E 3 v ss.length (secCells ss)) (g : ∀ s ∈ ss, w.ownsRow B F 1 s.v s.l.length (intCells s.l)) : RdS w v ss :=
  ⟨Rd.of_own h, fun s hs => Rd.of_own (g s hs)⟩
end Go.Proofs.Ytlhekgjckjcbhaa
