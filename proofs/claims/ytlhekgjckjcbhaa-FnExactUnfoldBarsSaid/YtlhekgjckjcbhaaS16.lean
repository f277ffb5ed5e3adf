/- Marking and asking the marks: integers, sections; the walk of FnExactPlayedOrder. Conditions: lengths up to 2^20. -/
import Derived.Test.YtlhekgjckjcbhaaS14
namespace Go.Proofs.Ytlhekgjckjcbhaa
open Go.RowKit
set_option linter.unusedSimpArgs false
set_option linter.unusedVariables false
set_option maxHeartbeats 8000000

def MadeSecsAt (ss : List Sec) (w : World) (e : Ending) (w' : World) : Prop :=
  ∃ ss', e = .returned (.slice (some ⟨w.heap.size, 0, none⟩) ss.length ss.length) ∧ List.map Sec.d ss' = ss.map Sec.d ∧ w'.ownsRow w.heap.size 43 3 (.slice (some ⟨w.heap.size, 0, none⟩) ss.length ss.length) ss'.length (secCells ss') ∧
    (∀ s ∈ ss', w'.ownsRow (w.heap.size + 1) 3 1 s.v s.l.length (intCells s.l)) ∧ Below w.heap.size w w'
theorem c_toSectionS_at (v : Value) (ss : List Sec) (w : World) (h : RdS w v ss) (hn : ss.length ≤ 1048576) (hs : ∀ s ∈ ss, s.l.length ≤ 1048576) :
    Calls Try.prog 27 #[v] w (MadeSecsAt ss w) := by
  obtain ⟨⟨_, A, c, rfl, hnc, hcm, hA⟩, hg⟩ := h
  unfold maxLen at hcm
  have HG := Lib.hid hg
  have HL := Lib.hid hs
  clear hg hs
  obtain ⟨i0, hi0, hz0, hz1, hz2⟩ := info_parts info_sec
  have hmk := fun W => run_make_rowN (P := Try.prog) 52 43 i0 _ Try.underlying52 hi0 hz0 .i64 .i64 ss.length ss.length (Nat.le_refl _) (by rw [hz2]; omega) (by omega) W
  rw [hz1] at hmk
  clear hi0 hz0 hz1 hz2
  go_enter Try.func27, Try.ntmps27
  go_wp2
  clear hmk
  go_loopw [4] (fun i wr => ∃ (k : Nat) (cur : Array Value) (ss' : List Sec), k ≤ ss.length ∧ i = .int .i64 k ∧ wr.heap[w.heap.size]? = some (.cells cur 43 (0, 0)) ∧ cur.size = ss.length * 3 ∧ ss'.length = k ∧ cur.toList.take (k * 3) = secCells ss' ∧
      List.map Sec.d ss' = (ss.take k).map Sec.d ∧ (∀ s ∈ ss', wr.ownsRow (w.heap.size + 1) 3 1 s.v s.l.length (intCells s.l)) ∧ Below w.heap.size w wr) (fun i _ => ss.length - (intOf i).toNat)
  case atStart => exact ⟨0, _, [], Nat.zero_le _, rfl, heap_alloc_new w _, size_madeCells _ _, rfl, by simp [cellsOf], by simp, by simp, bel1 _ _⟩
  case round =>
    obtain ⟨k, cur, ss', hk, rfl, hcur, hsz, hle, htk, hmp, hin, hbl⟩ := hrel
    have hz := hbl.size
    have hgl : w.heap.size < wr.heap.size := (Array.getElem?_eq_some_iff.1 hcur).1
    have HS := Lib.hid hsz
    have HT := Lib.hid htk
    have HC := Lib.hid hcur
    have HM := Lib.hid hmp
    have HI := Lib.hid hin
    have HE := Lib.hid hle
    clear hsz htk hmp hin hle
    by_cases hlt : k < ss.length
    · obtain ⟨b, off, rfl, hcc⟩ := hA (by omega)
      obtain ⟨p0, p1, p2⟩ := sec_at (rd_later hbl hcc) k hlt
      have HX := Lib.hid (Rd.below (HG.out _ (List.getElem_mem hlt)) (Nat.le_refl _) hbl)
      have hl := HL.out _ (List.getElem_mem hlt)
      have HN := Lib.hid (fun s hs => map_d_snoc hlt HM.out s hs)
      generalize ss[k] = s at *
      obtain ⟨sb, st, sv, sl⟩ := s
      dsimp only at hl
      clear hA hcc hcur
      go_wp2_with fail
      (go_at_call 59; (with_reducible refine (c_toSection sb st _ sl _ HX.out hl).mono ?_); rintro e wq ⟨v2, rfl, hown, hbq⟩)
      obtain ⟨_, A2, cc2, rfl, -, -, -⟩ := Rd.of_own hown
      have hcq := (hbq.block w.heap.size hgl).trans HC.out
      have hO2 := Lib.hid (own_mono hown hgl)
      have hO1 := Lib.hid (fun s hs => own_bel (HI.out s hs) hbq)
      obtain ⟨u0, u1, u2, f0, f1, f2, hfr⟩ := there3 hcq (k * 3) (by rw [HS.out]; omega)
      obtain ⟨cur', hc', hs', ht'⟩ := store3 hcq (k * 3) (.int .i64 sb) (.int .i64 st) (.slice A2 sl.length cc2) (by rw [HS.out]; omega)
      have hbl' := below_store3 (o := k * 3) (hbl.trans (hbq.mono hz)) (Nat.le_refl w.heap.size) (.int .i64 sb) (.int .i64 st) (.slice A2 sl.length cc2)
      have H1 := Lib.hid hc'
      have H2 := Lib.hid hs'
      have H3 := Lib.hid ht'
      have H4 := Lib.hid hbl'
      clear hown hc' hs' ht' hcq hbl'
      go_wp2
      go_roundw
      case rel =>
        refine ⟨k + 1, cur', ss' ++ [⟨sb, st, .slice A2 sl.length cc2, sl⟩], by omega, by go_num, H1.out, H2.out.trans HS.out, by simp [HE.out], by rw [Nat.add_mul, Nat.one_mul, H3.out, HT.out, secs_snoc]; rfl, HN.out _ rfl, ?_, H4.out⟩
        intro s hs
        rcases List.mem_append.1 hs with h1 | h1
        · exact own_store3 (hO1.out s h1) (Nat.lt_succ_self _) _ _ _
        · rw [List.mem_singleton.1 h1]; exact own_store3 hO2.out (Nat.lt_succ_self _) _ _ _
      case measure => simp [intOf]; omega
    · clear hA hcur
      go_wp2
      go_ret
      have hke : k = ss.length := by omega
      have hM := HM.out
      rw [hke, List.take_length] at hM
      have hE := HE.out
      refine ⟨ss', rfl, hM, ⟨cellsOf_len Sec.cells 3 Sec.cells_len ss', .inr ⟨w.heap.size, ss.length, cur, by rw [hE, hke], Nat.le_refl _, HC.out, by omega, by unfold maxLen; omega, HS.out, ?_⟩⟩, HI.out, hbl⟩
      rw [hE]; exact HT.out
def mkInts (m : Int) (n : Nat) : List Int := (List.range n).map fun (i : Nat) => m + (i : Int)
theorem mkInts_len (m : Int) (n : Nat) : (mkInts m n).length = n := by simp [mkInts]
theorem mkInts_succ (m : Int) (n : Nat) : intCells (mkInts m (n + 1)) = intCells (mkInts m n) ++ [.int .i64 (m + n)] := by
  unfold mkInts
  rw [List.range_succ, List.map_append, intCells_app]
  rfl
theorem mkInts_get (m : Int) (n k : Nat) (h : k < (mkInts m n).length) : (mkInts m n)[k] = m + k := by simp [mkInts]
def Marked (base E size : Nat) (v : Value) (n : Nat) (xs : List Value) (m : Int) (w : World) (e : Ending) (w' : World) : Prop :=
  e = .returned (.int .i64 m) ∧ w'.ownsRow base E size v n xs ∧ w.grownBy w' v.ownBlock
theorem c_markIntS (base : Nat) (v : Value) (n : Nat) (xs : List Value) (m : Int) (w : World) (h : w.ownsRow base 3 1 v n xs) (hn : n ≤ 1048576) (hm0 : 0 ≤ m) (hm1 : m ≤ 10000000000000) :
    Calls Try.prog 63 #[v, .int .i64 m] w (Marked base 3 1 v n (intCells (mkInts m n)) (m + n) w) := by
  rcases h.2 with ⟨rfl, rfl⟩ | ⟨g, cap, cur0, rfl, hbg, hg0, hnc, hcm, hsz0, htk0⟩
  · go_enter Try.func63, Try.ntmps63
    go_wp2
    go_loop [1, 5] (fun t i => i = .int .i64 0 ∧ t = .int .i64 m) (fun _ _ => 0)
    case atStart => exact ⟨rfl, rfl⟩
    case round =>
      obtain ⟨rfl, rfl⟩ := hrel
      go_wp2
      go_ret
      exact ⟨by simp, ⟨by simp [mkInts, cellsOf], .inl ⟨rfl, rfl⟩⟩, World.grownBy.refl _ _⟩
  · have HG := Lib.hid hg0
    have HS0 := Lib.hid hsz0
    clear hg0 hsz0 htk0 h
    unfold maxLen at hcm
    go_enter Try.func63, Try.ntmps63
    go_wp2
    go_loopw [1, 5] (fun t i wr => ∃ (k : Nat) (M : Int) (cur : Array Value), k ≤ n ∧ i = .int .i64 k ∧ t = .int .i64 M ∧ M = m + k ∧ wr.heap[g]? = some (.cells cur 3 (0, 0)) ∧ cur.size = cap * 1 ∧ cur.toList.take k = intCells (mkInts m k) ∧ w.grownBy wr (some g)) (fun _ i _ => n - (intOf i).toNat)
    case atStart => exact ⟨0, m, cur0, Nat.zero_le _, rfl, rfl, by simp, HG.out, HS0.out, by simp [mkInts, cellsOf], World.grownBy.refl _ _⟩
    case round =>
      obtain ⟨k, M, cur, hk, rfl, rfl, hM, hcur, hsz, htk, hkp⟩ := hrel
      have M0 : 0 ≤ M := by omega
      have M1 : M ≤ 10000000000000 + 1048576 := by omega
      have HM := Lib.hid hM
      have HS := Lib.hid hsz
      have HT := Lib.hid htk
      have HC := Lib.hid hcur
      clear hM hsz htk
      by_cases hlt : k < n
      · have f0 := (cell_of_row wr g k cur 3 (0, 0) hcur).trans (Array.getElem?_eq_getElem (show k < cur.size by rw [HS.out]; omega))
        have hfr := (blk_facts hcur).2
        generalize cur[k]'_ = u0 at f0
        obtain ⟨cur', hc', hs', ht'⟩ := store1 hcur k (.int .i64 M) (by rw [HS.out]; omega)
        have H1 := Lib.hid hc'
        have H2 := Lib.hid hs'
        have H3 := Lib.hid ht'
        have H4 := Lib.hid (kp_setCell hkp (p := ⟨g, k, none⟩) (.inl rfl) (.int .i64 M))
        clear hcur hc' hs' ht'
        go_wp2
        go_roundw
        case rel => exact ⟨k + 1, _, cur', by omega, by go_num, rfl, by have := HM.out; omega, H1.out, H2.out.trans HS.out, by rw [H3.out, HT.out, mkInts_succ, HM.out], H4.out⟩
        case measure => simp [intOf]; omega
      · clear hcur
        go_wp2
        go_ret
        have hke : k = n := by omega
        subst hke
        exact ⟨ret_int HM.out, ⟨by rw [intCells_lenA, mkInts_len, Nat.mul_one], .inr ⟨g, cap, cur, rfl, hbg, HC.out, hnc, by unfold maxLen; omega, HS.out, by rw [Nat.mul_one]; exact HT.out⟩⟩, hkp⟩
/-- Whatever a row holds, it is there to be marked; it stays so while rows of its kind are marked. -/
theorem own_any_kept {B B2 e size n n' : Nat} {v v' : Value} {xs ys : List Value} {w w' : World} (h' : ∃ xs', w.ownsRow B e size v' n' xs') (h : w.ownsRow B2 e size v n xs) (hk : w.grownBy w' v.ownBlock) (hn : w'.ownsRow B2 e size v n ys) :
    ∃ xs', w'.ownsRow B e size v' n' xs' := by
  obtain ⟨xs', h'⟩ := h'
  by_cases hb : v'.ownBlock = none ∨ v'.ownBlock ≠ v.ownBlock
  · exact ⟨xs', h'.kept hk hb⟩
  · have hb1 : v'.ownBlock ≠ none := fun hh => hb (.inl hh)
    have hb2 : v'.ownBlock = v.ownBlock := Classical.byContradiction fun hh => hb (.inr hh)
    rcases h'.2 with ⟨rfl, _⟩ | ⟨g, cap, cur, rfl, q1, q2, q3, q4, q5, q6⟩
    · exact absurd rfl hb1
    · rcases hn.2 with ⟨rfl, _⟩ | ⟨g2, cap2, cur2, rfl, r1, r2, r3, r4, r5, r6⟩
      · cases hb2
      · rcases h.2 with ⟨hc, _⟩ | ⟨g3, cap3, cur3, hc, s1, s2, s3, s4, s5, s6⟩
        · cases hc
        · cases hc
          have hg : g = g2 := by simpa [Value.ownBlock] using hb2
          subst hg
          rw [q2] at s2
          cases s2
          have hcs : cur2.size = cap * size := by rw [r5, ← s5, q5]
          refine ⟨cur2.toList.take (n' * size), ?_, .inr ⟨g, cap, cur2, rfl, q1, r2, q3, q4, hcs, rfl⟩⟩
          rw [List.length_take, Array.length_toList, hcs]
          exact Nat.min_eq_left (Nat.mul_le_mul_right _ q3)
def MarkedSecs (g Hi : Nat) (w : World) (e : Ending) (w' : World) : Prop := ∃ M : Int, e = .returned (.int .i64 M) ∧ 0 ≤ M ∧ Below g w w' ∧ (∀ b, Hi ≤ b → b < w.heap.size → w'.heap[b]? = w.heap[b]?) ∧ M ≤ 2000000000000
theorem c_markSectionS (g Hi : Nat) (ss : List Sec) (w : World) (cur0 : Array Value) (hheap : w.heap[g]? = some (.cells cur0 43 (0, 0))) (hsz : cur0.size = ss.length * 3) (hvs : ∀ j (hj : j < ss.length), cur0[j * 3 + 2]? = some ss[j].v)
    (hown : ∀ s ∈ ss, ∃ xs, w.ownsRow (g + 1) 3 1 s.v s.l.length xs) (hn : ss.length ≤ 1048576) (hs : ∀ s ∈ ss, s.l.length ≤ 1048576) (hg : g < Hi) (hHi : ∀ s ∈ ss, ∀ b, s.v.ownBlock = some b → b < Hi) :
    Calls Try.prog 32 #[.slice (some ⟨g, 0, none⟩) ss.length ss.length, .int .i64 1] w (MarkedSecs g Hi w) := by
  have hgl : g < w.heap.size := (Array.getElem?_eq_some_iff.1 hheap).1
  have HH := Lib.hid hheap
  have HZ := Lib.hid hsz
  have HV := Lib.hid hvs
  have HO := Lib.hid hown
  have HL := Lib.hid hs
  have HHi := Lib.hid hHi
  clear hheap hsz hvs hown hs hHi
  go_enter Try.func32, Try.ntmps32
  go_wp2
  go_loopw [1, 5] (fun t i wr => ∃ (k : Nat) (M : Int) (cur : Array Value), k ≤ ss.length ∧ i = .int .i64 k ∧ t = .int .i64 M ∧ 0 ≤ M ∧ M ≤ 1 + 1048578 * k ∧ wr.heap[g]? = some (.cells cur 43 (0, 0)) ∧ cur.size = ss.length * 3 ∧
    (∀ j (hj : j < ss.length), cur[j * 3 + 2]? = some ss[j].v) ∧ (∀ s ∈ ss, ∃ xs, wr.ownsRow (g + 1) 3 1 s.v s.l.length xs) ∧ Below g w wr ∧ (∀ b, Hi ≤ b → b < w.heap.size → wr.heap[b]? = w.heap[b]?)) (fun _ i _ => ss.length - (intOf i).toNat)
  case atStart => exact ⟨0, 1, cur0, Nat.zero_le _, rfl, rfl, by omega, by omega, HH.out, HZ.out, HV.out, HO.out, Below.refl _ _, fun _ _ _ => rfl⟩
  case round =>
    obtain ⟨k, M, cur, hk, rfl, rfl, M0, M1, hcur, hsz, hvs, hown, hbl, hfar⟩ := hrel
    have hz := hbl.size
    have HZ := Lib.hid hsz
    have HV := Lib.hid hvs
    have HO := Lib.hid hown
    have HC := Lib.hid hcur
    have HF := Lib.hid hfar
    clear hsz hvs hown hfar
    by_cases hlt : k < ss.length
    · obtain ⟨xs, hox⟩ := HO.out _ (List.getElem_mem hlt)
      have hl := HL.out _ (List.getElem_mem hlt)
      have hvk := HV.out k hlt
      obtain ⟨u0, u1, u2, f0, f1, f2, hfr⟩ := there3 hcur (k * 3) (by rw [HZ.out]; omega)
      have e2 : u2 = ss[k].v := by
        rw [cell_of_row wr g _ cur _ (0, 0) hcur, hvk] at f2
        exact (Option.some.inj f2).symm
      subst e2
      have HOx := Lib.hid hox
      have hvb := HHi.out _ (List.getElem_mem hlt)
      have HKeep := Lib.hid (fun (w2 w3 : World) (ys : List Value) (h0 : ∀ s ∈ ss, ∃ xs, w2.ownsRow (g + 1) 3 1 s.v s.l.length xs) (h1 : w2.ownsRow (g + 1) 3 1 ss[k].v ss[k].l.length xs) (h2 : w2.grownBy w3 ss[k].v.ownBlock) (h3 : w3.ownsRow (g + 1) 3 1 ss[k].v ss[k].l.length ys) =>
        show ∀ s ∈ ss, ∃ xs, w3.ownsRow (g + 1) 3 1 s.v s.l.length xs from fun s hs => own_any_kept (h0 s hs) h1 h2 h3)
      generalize ss[k].v = v at *
      generalize ss[k].l.length = ln at *
      have HCs := Lib.hid (show ((wr.setCell ⟨g, k * 3, none⟩ (.int .i64 M)).setCell ⟨g, k * 3 + 1, none⟩ (.int .i64 (M + 1))).heap[g]? = some (.cells ((cur.setIfInBounds (k * 3) (.int .i64 M)).setIfInBounds (k * 3 + 1) (.int .i64 (M + 1))) 43 (0, 0)) by
        simp only [heap_setCell_get, if_true, hcur, Option.map_some])
      have HOs := Lib.hid (show ((wr.setCell ⟨g, k * 3, none⟩ (.int .i64 M)).setCell ⟨g, k * 3 + 1, none⟩ (.int .i64 (M + 1))).ownsRow (g + 1) 3 1 v ln xs from ownsRow_setCell_below (ownsRow_setCell_below hox (Nat.lt_succ_self _) _) (Nat.lt_succ_self _) _)
      have HOs2 := Lib.hid (show ∀ s ∈ ss, ∃ xs, ((wr.setCell ⟨g, k * 3, none⟩ (.int .i64 M)).setCell ⟨g, k * 3 + 1, none⟩ (.int .i64 (M + 1))).ownsRow (g + 1) 3 1 s.v s.l.length xs from fun s hs => by
        obtain ⟨ys, hy⟩ := HO.out s hs
        exact ⟨ys, ownsRow_setCell_below (ownsRow_setCell_below hy (Nat.lt_succ_self _) _) (Nat.lt_succ_self _) _⟩)
      have HBs := Lib.hid ((hbl.setCell (p := ⟨g, k * 3, none⟩) (Nat.le_refl _) (.int .i64 M)).setCell (p := ⟨g, k * 3 + 1, none⟩) (Nat.le_refl _) (.int .i64 (M + 1)))
      have HVb := Lib.hid hvb
      clear hox hcur hvk hvb
      go_wp2_with fail
      (go_at_call 63; (with_reducible refine (c_markIntS (g + 1) v ln xs (M + 1 + 1) _ HOs.out hl (by omega) (by omega)).mono ?_); rintro e w3 ⟨rfl, hown3, hk3⟩)
      have HC3 := Lib.hid (heap_app HOs.out hk3 HCs.out (Nat.lt_succ_self _))
      have HB3 := Lib.hid (bel_append HBs.out HOs.out hk3 (Nat.le_succ _) (by rw [size_setCell', size_setCell']; omega))
      have HO3 := Lib.hid (HKeep.out _ _ _ HOs2.out HOs.out hk3 hown3)
      have HF3 := Lib.hid (fun b (h1 : Hi ≤ b) (h2 : b < w.heap.size) => show w3.heap[b]? = w.heap[b]? from
        ((hk3.block b (by rw [size_setCell', size_setCell']; omega) (fun hh => by have := HVb.out b hh.symm; omega)).trans
          ((Below.heap_setCell _ ⟨g, k * 3 + 1, none⟩ _ b (by show b ≠ g; omega)).trans (Below.heap_setCell _ ⟨g, k * 3, none⟩ _ b (by show b ≠ g; omega)))).trans (HF.out b h1 h2))
      clear hown3 hk3
      go_wp2_with fail
      go_roundw
      case rel =>
        refine ⟨k + 1, M + 1 + 1 + ln, _, by omega, by go_num, rfl, by omega, by omega, HC3.out, by rw [Array.size_setIfInBounds, Array.size_setIfInBounds]; exact HZ.out, fun j hj => ?_, HO3.out, HB3.out, HF3.out⟩
        rw [Array.getElem?_setIfInBounds, if_neg (by omega), Array.getElem?_setIfInBounds, if_neg (by omega)]
        exact HV.out j hj
      case measure => simp [intOf]; omega
    · go_wp2
      go_ret
      exact ⟨M, rfl, M0, hbl, HF.out, by omega⟩
end Go.Proofs.Ytlhekgjckjcbhaa
