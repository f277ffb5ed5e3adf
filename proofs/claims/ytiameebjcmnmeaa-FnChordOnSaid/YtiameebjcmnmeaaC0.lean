/- Slices of pitches: copied, compared, marked. Conditions: lengths up to 2^20. -/
import Derived.Test.YtiameebjcmnmeaaB3
import Derived.Test.YtiameebjcmnmeaaI1
namespace Go.Proofs.Ytiameebjcmnmeaa
open Go.RowKit
set_option linter.unusedSimpArgs false
set_option linter.unusedVariables false
set_option maxHeartbeats 4000000

theorem pit_at {w : World} {b off : Nat} {ns : List Pit} (hc : ∀ j u, (pitCells ns)[j]? = some u → w.cell? ⟨b, off + j, none⟩ = some u) (k : Nat) (hk : k < ns.length) :
    w.cell? ⟨b, off + k * 3, none⟩ = some (.int .i64 ns[k].step) ∧ w.cell? ⟨b, off + k * 3 + 1, none⟩ = some (.int .i64 ns[k].alter) ∧
    w.cell? ⟨b, off + k * 3 + 2, none⟩ = some (.int .i64 ns[k].octave) := by
  have h := fun j (hj : j < 3) => cellsOf_get Pit.cells 3 Pit.cells_len ns k j hj hk
  refine ⟨hc (k * 3 + 0) _ (h 0 (by omega)), ?_, ?_⟩
  · rw [Nat.add_assoc]; exact hc (k * 3 + 1) _ (h 1 (by omega))
  · rw [Nat.add_assoc]; exact hc (k * 3 + 2) _ (h 2 (by omega))
theorem store3 {w : World} {g : Nat} {cur : Array Value} {T : TypeId} (h : w.heap[g]? = some (.cells cur T (0, 0))) (a : Nat) (v0 v1 v2 : Value) (hs : a + 3 ≤ cur.size) :
    ∃ cur', (((w.setCell ⟨g, a, none⟩ v0).setCell ⟨g, a + 1, none⟩ v1).setCell ⟨g, a + 2, none⟩ v2).heap[g]? = some (.cells cur' T (0, 0)) ∧
      cur'.size = cur.size ∧ cur'.toList.take (a + 3) = cur.toList.take a ++ [v0, v1, v2] := by
  refine ⟨((cur.setIfInBounds a v0).setIfInBounds (a + 1) v1).setIfInBounds (a + 2) v2, ?_, by simp, ?_⟩
  · simp only [heap_setCell_get, if_true, h, Option.map_some]
  · apply List.ext_getElem?
    intro i
    simp only [Array.toList_setIfInBounds, List.getElem?_take, List.getElem?_set, List.length_set, Array.length_toList, List.getElem?_append, List.length_take]
    by_cases h1 : i < a
    · have : i < min a cur.size := by omega
      simp [this, show i < a + 3 by omega, h1, show ¬ a + 2 = i by omega, show ¬ a + 1 = i by omega, show ¬ a = i by omega]
    · have hn : ¬ i < min a cur.size := by omega
      have hm : min a cur.size = a := by omega
      by_cases h2 : i < a + 3
      · obtain ⟨d, rfl⟩ : ∃ d, i = a + d := ⟨i - a, by omega⟩
        have hd : d = 0 ∨ d = 1 ∨ d = 2 := by omega
        rcases hd with rfl | rfl | rfl <;> simp [hm, show a + 2 < cur.size by omega, show a + 1 < cur.size by omega, show a < cur.size by omega] <;> (try (intro hh; exact absurd hh (by omega)))
      · rw [if_neg h2, if_neg hn, hm, List.getElem?_eq_none (by simp; omega)]
theorem there3 {w : World} {g : Nat} {cur : Array Value} {T : TypeId} (h : w.heap[g]? = some (.cells cur T (0, 0))) (a : Nat) (hs : a + 3 ≤ cur.size) :
    ∃ u0 u1 u2, w.cell? ⟨g, a, none⟩ = some u0 ∧ w.cell? ⟨g, a + 1, none⟩ = some u1 ∧ w.cell? ⟨g, a + 2, none⟩ = some u2 ∧ ∀ o, w.frozen? ⟨g, o, none⟩ = false := by
  have e := fun j (hj : j < 3) => (cell_of_row w g (a + j) cur T (0, 0) h).trans (Array.getElem?_eq_getElem (show a + j < cur.size by omega))
  exact ⟨_, _, _, e 0 (by omega), e 1 (by omega), e 2 (by omega), (blk_facts h).2⟩
theorem below_store3 {B : Nat} {a w : World} {g o : Nat} (h : Below B a w) (hg : B ≤ g) (v0 v1 v2 : Value) :
    Below B a (((w.setCell ⟨g, o, none⟩ v0).setCell ⟨g, o + 1, none⟩ v1).setCell ⟨g, o + 2, none⟩ v2) :=
  ((h.setCell (p := ⟨g, o, none⟩) hg v0).setCell (p := ⟨g, o + 1, none⟩) hg v1).setCell (p := ⟨g, o + 2, none⟩) hg v2
theorem kp_store3 {g o : Nat} {a w : World} (h : a.grownBy w (some g)) (v0 v1 v2 : Value) :
    a.grownBy (((w.setCell ⟨g, o, none⟩ v0).setCell ⟨g, o + 1, none⟩ v1).setCell ⟨g, o + 2, none⟩ v2) (some g) := by
  have st : ∀ (w : World) (p : Addr) (u : Value), a.grownBy w (some g) → p.block = g → a.grownBy (w.setCell p u) (some g) := fun w p u h hp =>
    ⟨h.os, h.tape, h.output, by simpa [World.setCell] using h.size, fun i hi hne => (Below.heap_setCell w p u i (by rintro rfl; exact hne (by rw [hp]))).trans (h.block i hi hne)⟩
  exact st _ _ _ (st _ _ _ (st _ _ _ h rfl) rfl) rfl
theorem pits_take_succ (ns : List Pit) (k : Nat) (hk : k < ns.length) : pitCells (ns.take (k + 1)) = pitCells (ns.take k) ++ ns[k].cells := by
  show cellsOf _ _ = _
  rw [List.take_succ_eq_append_getElem hk, cellsOf_append, cellsOf_cons, cellsOf_nil, List.append_nil]
theorem pits_snoc (l : List Pit) (n : Pit) : pitCells (l ++ [n]) = pitCells l ++ n.cells := by
  show cellsOf _ _ = _
  rw [cellsOf_append, cellsOf_cons, cellsOf_nil, List.append_nil]
theorem pit_one (n : Pit) : ∀ u ∈ n.cells, u.oneCell' = true := by
  intro u hu
  simp [Pit.cells] at hu
  rcases hu with rfl | rfl | rfl <;> rfl
theorem info_pit : (Try.prog.info? 32).map (fun i => (i.zero, i.size, i.bytes)) = some (some (.agg #[.int .i64 0, .int .i64 0, .int .i64 0]), 3, 24) := by kernel_rfl
theorem c_szPitchS (A : Option Addr) (n c : Nat) (left : Int) (w : World) (hn : n ≤ 9223372036854775807) (h0 : 0 ≤ left) (h1 : left ≤ 1048576) (h : (n : Int) ≤ left) :
    Calls Try.prog 24 #[.slice A n c, .int .i64 left] w fun e w' => e = .returned (.int .i64 (left - n)) ∧ w = w' := by
  go_enter Try.func24, Try.ntmps24
  go_wp2
  go_ret
  exact ⟨rfl, rfl⟩
theorem c_szPitchS_no (A : Option Addr) (n c : Nat) (left : Int) (w : World) (hn : n ≤ 9223372036854775807) (h0 : 0 ≤ left) (h1 : left ≤ 1048576) (h : ¬ (n : Int) ≤ left) :
    Calls Try.prog 24 #[.slice A n c, .int .i64 left] w fun e w' => e = .returned (.int .i64 (-1)) ∧ w = w' := by
  go_enter Try.func24, Try.ntmps24
  go_wp2
  go_ret
  exact ⟨rfl, rfl⟩
def MadeP (n : Nat) (xs : List Value) (w : World) (e : Ending) (w' : World) : Prop :=
  ∃ v, e = .returned v ∧ w'.ownsRow w.heap.size 32 3 v n xs ∧ Below w.heap.size w w'
theorem run_make_rowP {P : Program} (t e : TypeId) (i : TypeInfo) (z : Value) (ht : P.underlying t = some (.slice e)) (hi : P.info? e = some i) (hz : i.zero = some z)
    (kl kc : IntKind) (n c : Nat) (hnc : n ≤ c) (hbytes : i.bytes * c ≤ 281474976710656) (h63 : c ≤ 9223372036854775807) (w : World) :
    (Instr.makeSlice t (.int kl (n : Int)) (.int kc (c : Int))).run P w = .ok (.slice (some ⟨w.heap.size, 0, none⟩) n c) (w.alloc (.cells (madeCells z.cells (c * i.size)) e)) := by
  have hb : (i.bytes : Int) * (c : Int) ≤ 281474976710656 := by
    have h : ((i.bytes * c : Nat) : Int) ≤ 281474976710656 := by omega
    rwa [Int.natCast_mul] at h
  have hr := run_make (P := P) w t e i z ht hi hz kl kc n c (by omega) (by omega) hb (by omega)
  simp only [Int.toNat_natCast] at hr
  exact hr
theorem c_toPitchS (v : Value) (ns : List Pit) (w : World) (h : Rd w v 3 ns.length (pitCells ns)) (hn : ns.length ≤ 1048576) :
    Calls Try.prog 26 #[v] w (MadeP ns.length (pitCells ns) w) := by
  obtain ⟨_, A, c, rfl, hnc, hcm, hA⟩ := h
  unfold maxLen at hcm
  obtain ⟨i0, hi0, hz0, hz1, hz2⟩ := info_parts info_pit
  have hmk := fun W => run_make_rowP (P := Try.prog) 25 32 i0 _ Try.underlying25 hi0 hz0 .i64 .i64 ns.length ns.length (Nat.le_refl _) (by rw [hz2]; omega) (by omega) W
  have HI := Lib.hid hz1
  rw [hz1] at hmk
  clear hi0 hz0 hz1 hz2
  go_enter Try.func26, Try.ntmps26
  go_wp2
  clear hmk
  go_loopw [4] (fun i wr => ∃ (k : Nat) (cur : Array Value), k ≤ ns.length ∧ i = .int .i64 k ∧ wr.heap[w.heap.size]? = some (.cells cur 32 (0, 0)) ∧ cur.size = ns.length * 3 ∧ cur.toList.take (k * 3) = pitCells (ns.take k) ∧ Below w.heap.size w wr) (fun i _ => ns.length - (intOf i).toNat)
  case atStart => exact ⟨0, _, Nat.zero_le _, rfl, heap_alloc_new w _, size_madeCells _ _, by simp [cellsOf], bel1 _ _⟩
  case round =>
    obtain ⟨k, cur, hk, rfl, hcur, hsz, htk, hbl⟩ := hrel
    have hz := hbl.size
    have HS := Lib.hid hsz
    have HT := Lib.hid htk
    have hgl : w.heap.size < wr.heap.size := (Array.getElem?_eq_some_iff.1 hcur).1
    have HC := Lib.hid hcur
    clear hsz htk
    by_cases hlt : k < ns.length
    · obtain ⟨b, off, rfl, hcc⟩ := hA (by omega)
      obtain ⟨p0, p1, p2⟩ := pit_at (fun j u hu => below_cell hbl (hcc j u hu)) k hlt
      have hX := Lib.hid (pits_take_succ ns k hlt)
      generalize ns[k] = x at *
      obtain ⟨xs, xa, xo⟩ := x
      clear hA hcc hcur
      go_wp2_with fail
      (go_at_call 61; (with_reducible refine (c_toPitch ⟨xs, xa, xo⟩ _).mono ?_); rintro e wq ⟨rfl, hbq⟩; have hzq := hbq.size; (try simp only [size_alloc', size_setCell', size_drew', size_drewN'] at hzq); skip)
      have hcq := (hbq.block w.heap.size hgl).trans HC.out
      obtain ⟨u0, u1, u2, f0, f1, f2, hfr⟩ := there3 hcq (k * 3) (by rw [HS.out]; omega)
      obtain ⟨cur', hc', hs', ht'⟩ := store3 hcq (k * 3) (.int .i64 xs) (.int .i64 xa) (.int .i64 xo) (by rw [HS.out]; omega)
      have hbl' := below_store3 (o := k * 3) (hbl.trans (hbq.mono hz)) (Nat.le_refl w.heap.size) (.int .i64 xs) (.int .i64 xa) (.int .i64 xo)
      have H1 := Lib.hid hc'
      have H2 := Lib.hid hs'
      have H3 := Lib.hid ht'
      have H4 := Lib.hid hbl'
      clear hc' hs' ht' hcq hbl'
      go_wp2
      go_roundw
      case rel => exact ⟨k + 1, cur', by omega, by go_num, H1.out, H2.out.trans HS.out, by rw [Nat.add_mul, Nat.one_mul, H3.out, HT.out, hX.out]; rfl, H4.out⟩
      case measure => simp [intOf]; omega
    · clear hA hcur
      go_wp2
      go_ret
      refine ⟨_, rfl, ⟨cellsOf_len Pit.cells 3 Pit.cells_len ns, .inr ⟨w.heap.size, ns.length, cur, rfl, Nat.le_refl _, HC.out, Nat.le_refl _, by unfold maxLen; omega, HS.out, ?_⟩⟩, hbl⟩
      have hke : k = ns.length := by omega
      rw [← hke, HT.out, hke, List.take_length]
def allEqP (a b : List Pit) : Bool := decide (a = b)
theorem pne_at {a b : List Pit} {k : Nat} (h1 : k < a.length) (h2 : k < b.length) (h : pitEq a[k] b[k] = false) : allEqP a b = false := by
  simp only [allEqP, decide_eq_false_iff_not]
  intro e
  subst e
  rw [pitEq_iff.2 rfl] at h
  cases h
theorem peq_all {a b : List Pit} (hl : a.length = b.length) (h : ∀ i (h1 : i < a.length) (h2 : i < b.length), pitEq a[i] b[i] = true) : allEqP a b = true := by
  simp only [allEqP, decide_eq_true_eq]
  exact List.ext_getElem hl fun i h1 h2 => pitEq_iff.1 (h i h1 h2)
theorem run_neq_pit (xs xa xo ys ya yo : Int) (w : World) :
    (binOp .neq 32 (.agg #[.int .i64 xs, .int .i64 xa, .int .i64 xo]) (.agg #[.int .i64 ys, .int .i64 ya, .int .i64 yo])).run Try.prog w =
      .ok (.bool (!pitEq ⟨xs, xa, xo⟩ ⟨ys, ya, yo⟩)) w := by
  by_cases h2 : xs = ys
  · by_cases h3 : xa = ya
    · by_cases h4 : xo = yo <;> simp [go_sem, pitEq, h2, h3, h4]
    · simp [go_sem, pitEq, h2, h3]
  · simp [go_sem, pitEq, h2]
theorem c_eqPitchS (u v : Value) (la lb : List Pit) (w : World) (ha : Rd w u 3 la.length (pitCells la)) (hb : Rd w v 3 lb.length (pitCells lb)) :
    Calls Try.prog 28 #[u, v] w fun e w' => e = .returned (.bool (allEqP la lb)) ∧ Below w.heap.size w w' := by
  obtain ⟨_, A1, c1, rfl, hn1, hm1, hA1⟩ := ha
  obtain ⟨_, A2, c2, rfl, hn2, hm2, hA2⟩ := hb
  unfold maxLen at hm1 hm2
  by_cases hl : la.length = lb.length
  · have hl' := Lib.hid hl
    have hle : la.length ≤ lb.length := by omega
    have hle' : lb.length ≤ la.length := by omega
    have hln : ((la.length : Int) != (lb.length : Int)) = false := by simp; omega
    clear hl
    go_enter Try.func28, Try.ntmps28
    go_wp2
    go_loopw [5] (fun i wr => ∃ k : Nat, k ≤ la.length ∧ i = .int .i64 k ∧ Below w.heap.size w wr ∧ ∀ i (h1 : i < la.length) (h2 : i < lb.length), i < k → pitEq la[i] lb[i] = true) (fun i _ => la.length - (intOf i).toNat)
    case atStart => exact ⟨0, Nat.zero_le _, rfl, Below.refl _ _, fun i _ _ hi => absurd hi (by omega)⟩
    case round =>
      obtain ⟨k, hk, rfl, hbl, hok⟩ := hrel
      have hz := hbl.size
      have HOK := Lib.hid hok
      clear hok
      by_cases hlt : k < la.length
      · have hlt2 : k < lb.length := by omega
        obtain ⟨b1, f1, rfl, hc1⟩ := hA1 (by omega)
        obtain ⟨b2, f2, rfl, hc2⟩ := hA2 (by omega)
        obtain ⟨p0, p1, p2⟩ := pit_at (fun j u hu => below_cell hbl (hc1 j u hu)) k hlt
        obtain ⟨q0, q1, q2⟩ := pit_at (fun j u hu => below_cell hbl (hc2 j u hu)) k hlt2
        have HE := Lib.hid (pne_at hlt hlt2)
        have HS := Lib.hid (show pitEq la[k] lb[k] = true → ∀ i (h1 : i < la.length) (h2 : i < lb.length), i < k + 1 → pitEq la[i] lb[i] = true by
          intro he i h1 h2 hi
          rcases Nat.lt_succ_iff_lt_or_eq.1 hi with h3 | rfl
          · exact HOK.out i h1 h2 h3
          · exact he)
        generalize la[k] = x at *
        generalize lb[k] = y at *
        clear hA1 hA2 hc1 hc2
        obtain ⟨xs, xa, xo⟩ := x
        obtain ⟨ys, ya, yo⟩ := y
        have hk1 : (0 : Int) ≤ (k : Int) := by omega
        have hk2 : (k : Int) < (la.length : Int) := by omega
        have hk3 : (k : Int) < (lb.length : Int) := by omega
        have hnq := run_neq_pit xs xa xo ys ya yo
        cases hxy : pitEq ⟨xs, xa, xo⟩ ⟨ys, ya, yo⟩
        · have HF := Lib.hid (HE.out hxy)
          rw [hxy] at hnq
          go_wp2_with fail
          (refine wp_region_more_lit (by kernel_rfl) (by kernel_rfl) ?_; (repeat (go_big_quiet_step ((go_at_call 27; with_reducible exact Calls.more_of (c_eqPitch ⟨xs, xa, xo⟩ ⟨ys, ya, yo⟩ _))))); refine wpQuiet_nil ?_; intro wq hwq; have hbq := below_of_more hwq; clear hwq; have hzq := hbq.size; (try simp only [size_alloc', size_setCell', size_drew', size_drewN'] at hzq); (try (refine keep_heap (b := w.heap.size) hbq ?_ ?_; (first | omega | (simp only [size_alloc', size_setCell', size_drew', size_drewN']; omega)); intro hkq; simp only [heap_alloc_get, heap_setCell_get, heap_drew_get, heap_drewN_get, size_alloc', size_setCell', size_drew', size_drewN', nat_simp1, nat_simp2, nat_simp3, nat_simp4, nat_simp5, if_true, if_false, *] at hkq; obtain ⟨_, _⟩ := blk_facts hkq)); skip)
          clear hnq
          go_wp2
          go_ret
          exact ⟨ret_bool HF.out.symm, by (repeat' (first | (with_reducible exact Below.refl _ _) | (with_reducible refine Below.setCell ?_ ?_ _) | (with_reducible refine Below.alloc ?_ ?_ _) | (with_reducible refine Below.drew ?_) | (with_reducible refine below_drewN ?_ _) | (with_reducible refine Below.trans ?_ (Below.mono (by with_reducible assumption) ?_)) | omega | (simp only [size_alloc', size_setCell', size_drew', size_drewN'] at *; omega)))⟩
        · have HF := Lib.hid (HS.out hxy)
          rw [hxy] at hnq
          go_wp2_with fail
          (refine wp_region_more_lit (by kernel_rfl) (by kernel_rfl) ?_; (repeat (go_big_quiet_step ((go_at_call 27; with_reducible exact Calls.more_of (c_eqPitch ⟨xs, xa, xo⟩ ⟨ys, ya, yo⟩ _))))); refine wpQuiet_nil ?_; intro wq hwq; have hbq := below_of_more hwq; clear hwq; have hzq := hbq.size; (try simp only [size_alloc', size_setCell', size_drew', size_drewN'] at hzq); (try (refine keep_heap (b := w.heap.size) hbq ?_ ?_; (first | omega | (simp only [size_alloc', size_setCell', size_drew', size_drewN']; omega)); intro hkq; simp only [heap_alloc_get, heap_setCell_get, heap_drew_get, heap_drewN_get, size_alloc', size_setCell', size_drew', size_drewN', nat_simp1, nat_simp2, nat_simp3, nat_simp4, nat_simp5, if_true, if_false, *] at hkq; obtain ⟨_, _⟩ := blk_facts hkq)); skip)
          clear hnq
          go_wp2
          go_roundw
          case rel => exact ⟨k + 1, by omega, by go_num, by (repeat' (first | (with_reducible exact Below.refl _ _) | (with_reducible refine Below.setCell ?_ ?_ _) | (with_reducible refine Below.alloc ?_ ?_ _) | (with_reducible refine Below.drew ?_) | (with_reducible refine below_drewN ?_ _) | (with_reducible refine Below.trans ?_ (Below.mono (by with_reducible assumption) ?_)) | omega | (simp only [size_alloc', size_setCell', size_drew', size_drewN'] at *; omega))), HF.out⟩
          case measure => simp [intOf]; omega
      · clear hA1 hA2
        go_wp2
        go_ret
        exact ⟨ret_bool (peq_all hl'.out (fun i h1 h2 => HOK.out i h1 h2 (by omega))).symm, hbl⟩
  · have hln : ((la.length : Int) != (lb.length : Int)) = true := by simp; omega
    clear hA1 hA2
    go_enter Try.func28, Try.ntmps28
    go_wp2
    go_ret
    exact ⟨ret_bool (by simp only [allEqP]; symm; simp; intro e; exact hl (by rw [e])), Below.refl _ _⟩
theorem c_eqPitchS_eq (u v : Value) (l : List Pit) (w : World) (ha : Rd w u 3 l.length (pitCells l)) (hb : Rd w v 3 l.length (pitCells l)) :
    Calls Try.prog 28 #[u, v] w fun e w' => e = .returned (.bool true) ∧ Below w.heap.size w w' := by
  have h := c_eqPitchS u v l l w ha hb
  rwa [show allEqP l l = true from decide_eq_true rfl] at h
theorem c_samePitches (u v : Value) (la lb : List Pit) (w : World) (ha : Rd w u 3 la.length (pitCells la)) (hb : Rd w v 3 lb.length (pitCells lb)) :
    Calls Try.prog 12 #[u, v] w fun e w' => e = .returned (.bool (allEqP la lb)) ∧ Below w.heap.size w w' := by
  obtain ⟨_, A1, c1, rfl, hn1, hm1, hA1⟩ := ha
  obtain ⟨_, A2, c2, rfl, hn2, hm2, hA2⟩ := hb
  unfold maxLen at hm1 hm2
  by_cases hl : la.length = lb.length
  · have hl' := Lib.hid hl
    have hle : la.length ≤ lb.length := by omega
    have hle' : lb.length ≤ la.length := by omega
    have hln : ((la.length : Int) != (lb.length : Int)) = false := by simp; omega
    clear hl
    go_enter Try.func12, Try.ntmps12
    go_wp2
    go_loopw [5] (fun i wr => ∃ k : Nat, k ≤ la.length ∧ i = .int .i64 k ∧ Below w.heap.size w wr ∧ ∀ i (h1 : i < la.length) (h2 : i < lb.length), i < k → pitEq la[i] lb[i] = true) (fun i _ => la.length - (intOf i).toNat)
    case atStart => exact ⟨0, Nat.zero_le _, rfl, Below.refl _ _, fun i _ _ hi => absurd hi (by omega)⟩
    case round =>
      obtain ⟨k, hk, rfl, hbl, hok⟩ := hrel
      have hz := hbl.size
      have HOK := Lib.hid hok
      clear hok
      by_cases hlt : k < la.length
      · have hlt2 : k < lb.length := by omega
        obtain ⟨b1, f1, rfl, hc1⟩ := hA1 (by omega)
        obtain ⟨b2, f2, rfl, hc2⟩ := hA2 (by omega)
        obtain ⟨p0, p1, p2⟩ := pit_at (fun j u hu => below_cell hbl (hc1 j u hu)) k hlt
        obtain ⟨q0, q1, q2⟩ := pit_at (fun j u hu => below_cell hbl (hc2 j u hu)) k hlt2
        have HE := Lib.hid (pne_at hlt hlt2)
        have HS := Lib.hid (show pitEq la[k] lb[k] = true → ∀ i (h1 : i < la.length) (h2 : i < lb.length), i < k + 1 → pitEq la[i] lb[i] = true by
          intro he i h1 h2 hi
          rcases Nat.lt_succ_iff_lt_or_eq.1 hi with h3 | rfl
          · exact HOK.out i h1 h2 h3
          · exact he)
        generalize la[k] = x at *
        generalize lb[k] = y at *
        clear hA1 hA2 hc1 hc2
        obtain ⟨xs, xa, xo⟩ := x
        obtain ⟨ys, ya, yo⟩ := y
        have hk1 : (0 : Int) ≤ (k : Int) := by omega
        have hk2 : (k : Int) < (la.length : Int) := by omega
        have hk3 : (k : Int) < (lb.length : Int) := by omega
        have hnq := run_neq_pit xs xa xo ys ya yo
        cases hxy : pitEq ⟨xs, xa, xo⟩ ⟨ys, ya, yo⟩
        · have HF := Lib.hid (HE.out hxy)
          rw [hxy] at hnq
          go_wp2_with fail
          (refine wp_region_more_lit (by kernel_rfl) (by kernel_rfl) ?_; (repeat (go_big_quiet_step (fail))); refine wpQuiet_nil ?_; intro wq hwq; have hbq := below_of_more hwq; clear hwq; have hzq := hbq.size; (try simp only [size_alloc', size_setCell', size_drew', size_drewN'] at hzq); (try (refine keep_heap (b := w.heap.size) hbq ?_ ?_; (first | omega | (simp only [size_alloc', size_setCell', size_drew', size_drewN']; omega)); intro hkq; simp only [heap_alloc_get, heap_setCell_get, heap_drew_get, heap_drewN_get, size_alloc', size_setCell', size_drew', size_drewN', nat_simp1, nat_simp2, nat_simp3, nat_simp4, nat_simp5, if_true, if_false, *] at hkq; obtain ⟨_, _⟩ := blk_facts hkq)); skip)
          clear hnq
          go_wp2
          go_ret
          exact ⟨ret_bool HF.out.symm, by (repeat' (first | (with_reducible exact Below.refl _ _) | (with_reducible refine Below.setCell ?_ ?_ _) | (with_reducible refine Below.alloc ?_ ?_ _) | (with_reducible refine Below.drew ?_) | (with_reducible refine below_drewN ?_ _) | (with_reducible refine Below.trans ?_ (Below.mono (by with_reducible assumption) ?_)) | omega | (simp only [size_alloc', size_setCell', size_drew', size_drewN'] at *; omega)))⟩
        · have HF := Lib.hid (HS.out hxy)
          rw [hxy] at hnq
          go_wp2_with fail
          (refine wp_region_more_lit (by kernel_rfl) (by kernel_rfl) ?_; (repeat (go_big_quiet_step (fail))); refine wpQuiet_nil ?_; intro wq hwq; have hbq := below_of_more hwq; clear hwq; have hzq := hbq.size; (try simp only [size_alloc', size_setCell', size_drew', size_drewN'] at hzq); (try (refine keep_heap (b := w.heap.size) hbq ?_ ?_; (first | omega | (simp only [size_alloc', size_setCell', size_drew', size_drewN']; omega)); intro hkq; simp only [heap_alloc_get, heap_setCell_get, heap_drew_get, heap_drewN_get, size_alloc', size_setCell', size_drew', size_drewN', nat_simp1, nat_simp2, nat_simp3, nat_simp4, nat_simp5, if_true, if_false, *] at hkq; obtain ⟨_, _⟩ := blk_facts hkq)); skip)
          clear hnq
          go_wp2
          go_roundw
          case rel => exact ⟨k + 1, by omega, by go_num, by (repeat' (first | (with_reducible exact Below.refl _ _) | (with_reducible refine Below.setCell ?_ ?_ _) | (with_reducible refine Below.alloc ?_ ?_ _) | (with_reducible refine Below.drew ?_) | (with_reducible refine below_drewN ?_ _) | (with_reducible refine Below.trans ?_ (Below.mono (by with_reducible assumption) ?_)) | omega | (simp only [size_alloc', size_setCell', size_drew', size_drewN'] at *; omega))), HF.out⟩
          case measure => simp [intOf]; omega
      · clear hA1 hA2
        go_wp2
        go_ret
        exact ⟨ret_bool (peq_all hl'.out (fun i h1 h2 => HOK.out i h1 h2 (by omega))).symm, hbl⟩
  · have hln : ((la.length : Int) != (lb.length : Int)) = true := by simp; omega
    clear hA1 hA2
    go_enter Try.func12, Try.ntmps12
    go_wp2
    go_ret
    exact ⟨ret_bool (by simp only [allEqP]; symm; simp; intro e; exact hl (by rw [e])), Below.refl _ _⟩
theorem c_samePitches_eq (u v : Value) (l : List Pit) (w : World) (ha : Rd w u 3 l.length (pitCells l)) (hb : Rd w v 3 l.length (pitCells l)) :
    Calls Try.prog 12 #[u, v] w fun e w' => e = .returned (.bool true) ∧ Below w.heap.size w w' := by
  have h := c_samePitches u v l l w ha hb
  rwa [show allEqP l l = true from decide_eq_true rfl] at h
end Go.Proofs.Ytiameebjcmnmeaa
