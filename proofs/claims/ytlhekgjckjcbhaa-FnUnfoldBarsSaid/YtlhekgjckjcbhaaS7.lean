/- Drawing a section. Conditions: none. -/
import Derived.Test.YtlhekgjckjcbhaaE0
import Derived.Test.YtlhekgjckjcbhaaS6
import Derived.Deep.RegionLaw
namespace Go.Proofs.Ytlhekgjckjcbhaa
open Go.RowKit
set_option linter.unusedSimpArgs false
set_option linter.unusedVariables false
set_option maxHeartbeats 8000000

theorem heap_kp {g b : Nat} {W w1 : World} {o : Obj} (hg : W.grownBy w1 (some g)) (h : W.heap[b]? = some o) (hne : b ≠ g) : w1.heap[b]? = some o :=
  (hg.block b (Array.getElem?_eq_some_iff.1 h).1 (by simpa using hne)).trans h
theorem heap_app {base e size n b : Nat} {v : Value} {xs : List Value} {W w1 : World} {o : Obj} (own : W.ownsRow base e size v n xs) (hk : W.grownBy w1 v.ownBlock) (h : W.heap[b]? = some o) (hb : b < base) : w1.heap[b]? = some o :=
  (hk.block b (Array.getElem?_eq_some_iff.1 h).1 (by
    intro hs
    have := (own.lt b hs.symm).1
    omega)).trans h
theorem own_len {base e size n n' : Nat} {v : Value} {xs : List Value} {W : World} (h : W.ownsRow base e size v n xs) (hn : n = n') : W.ownsRow base e size v n' xs := hn ▸ h
theorem intCells_len (l : List Int) : (intCells l).length = l.length := by rw [intCells_map, List.length_map]
theorem ints_app (l r : List Int) : intCells (l ++ r) = intCells l ++ intCells r := by rw [intCells_map, intCells_map, intCells_map, List.map_append]
/-- append of integers to a slice of the call's own, at a step of a region that draws: the new value written out. -/
theorem step_ints {W : World} {ops : Array Oper} {o : Oper} {a : Act} {K : Act → World → Prop} {Q : Exit → Act → World → Prop} {E : Prop} (hgd : o.guard = none) (s x : Operand)
    (ho : o.op = .call { callee := .builtin .append, args := #[s, x], argTypes := #[41, 41] }) (base : Nat) (v : Value) (l : List Int) (hs : a.eval s = v)
    (hown : W.ownsRow base 3 1 v l.length (intCells l)) (b : Nat) (news : List Int) (m : Nat) (hm : news.length = m) (hm0 : 0 < m) (hx : a.eval x = .slice (some ⟨b, 0, none⟩) m m) (T : TypeId)
    (hc : W.heap[b]? = some (.cells (news.map (Value.int .i64)).toArray T (0, 0))) (hl : l.length + m ≤ 4000000) (hbase : base ≤ W.heap.size)
    (h : ∀ g cap w', w'.ownsRow base 3 1 (.slice (some ⟨g, 0, none⟩) (l.length + m) cap) (l ++ news).length (intCells (l ++ news)) → W.grownBy w' v.ownBlock → g < w'.heap.size → K (a.put o.dst (.slice (some ⟨g, 0, none⟩) (l.length + m) cap)) w') :
    if Region.wanted o (yielded ops a.tmps) = true then Oper.wp Try.prog o a W K Q else E := by
  obtain ⟨i0, hi0, hz0, hz1, hz2⟩ := info_parts info_intE
  refine step_append_lies W hgd s x 41 ho base 3 i0 (.int .i64 0) 1 8 Try.underlying41 hi0 hz0 hz1 hz2 rfl (by decide) v _ _ hs hown ⟨b, 0, none⟩ m m (intCells news) hx ?_ ?_ ?_ hm0 ?_ ?_ hbase _ rfl ?_
  · rw [intCells_len]; omega
  · intro j u hj
    have := World.news_of_block hc j u
    exact this (by rw [intCells_map] at hj; simpa using hj)
  · intro u hu
    rw [intCells_map] at hu
    obtain ⟨y, _, rfl⟩ := List.mem_map.1 hu
    rfl
  · unfold maxLen; omega
  · omega
  · intro g cap w' h1 h2 h3 h4
    refine h g cap w' ?_ h2 h4
    rw [ints_app, List.length_append, hm]
    exact h1
/-- The same at a plain region. -/
theorem wp_ints {W : World} {ops : Array Oper} {rest : List Oper} {o : Oper} {a : Act} {Q : Exit → Act → World → Prop} (hgd : o.guard = none) (s x : Operand)
    (ho : o.op = .call { callee := .builtin .append, args := #[s, x], argTypes := #[41, 41] }) (base : Nat) (v : Value) (l : List Int) (hs : a.eval s = v)
    (hown : W.ownsRow base 3 1 v l.length (intCells l)) (b : Nat) (news : List Int) (m : Nat) (hm : news.length = m) (hm0 : 0 < m) (hx : a.eval x = .slice (some ⟨b, 0, none⟩) m m) (T : TypeId)
    (hc : W.heap[b]? = some (.cells (news.map (Value.int .i64)).toArray T (0, 0))) (hl : l.length + m ≤ 4000000) (hbase : base ≤ W.heap.size)
    (h : ∀ g cap w', w'.ownsRow base 3 1 (.slice (some ⟨g, 0, none⟩) (l.length + m) cap) (l ++ news).length (intCells (l ++ news)) → W.grownBy w' v.ownBlock → g < w'.heap.size → wpList Try.prog ops Q rest (a.put o.dst (.slice (some ⟨g, 0, none⟩) (l.length + m) cap)) w') :
    wpList Try.prog ops Q (o :: rest) a W := by
  obtain ⟨i0, hi0, hz0, hz1, hz2⟩ := info_parts info_intE
  refine wpList_append_lies W hgd s x 41 ho base 3 i0 (.int .i64 0) 1 8 Try.underlying41 hi0 hz0 hz1 hz2 rfl (by decide) v _ _ hs hown ⟨b, 0, none⟩ m m (intCells news) hx ?_ ?_ ?_ hm0 ?_ ?_ hbase _ rfl ?_
  · rw [intCells_len]; omega
  · intro j u hj
    have := World.news_of_block hc j u
    exact this (by rw [intCells_map] at hj; simpa using hj)
  · intro u hu
    rw [intCells_map] at hu
    obtain ⟨y, _, rfl⟩ := List.mem_map.1 hu
    rfl
  · unfold maxLen; omega
  · omega
  · intro g cap w' h1 h2 h3 h4
    refine h g cap w' ?_ h2 h4
    rw [ints_app, List.length_append, hm]
    exact h1
/-- A section that was drawn: small numbers, endings in memory of the call's own. -/
def DrewSec (g m : Nat) (w : World) (e : Ending) (w' : World) : Prop :=
  ∃ b t v l, e = .returned (.agg #[.int .i64 b, .int .i64 t, v]) ∧ w'.ownsRow w.heap.size 3 1 v (l : List Int).length (intCells l) ∧ l.length ≤ 8 ∧ I64 b ∧ I64 t ∧ (∀ a ∈ l, I64 a) ∧ Rdr w' g m ∧ w.grownBy w' (some g)
theorem all_snoc2 {l : List Int} (h : ∀ a ∈ l, I64 a) : ∀ a ∈ l ++ [1, 1], I64 a := by
  intro a ha
  rcases List.mem_append.1 ha with h1 | h1
  · exact h a h1
  · simp at h1; subst h1; unfold I64; omega
theorem small_I64 {x : Int} (h0 : -1000000 ≤ x) (h1 : x ≤ 1000000) : I64 x := by unfold I64; omega
theorem c_l20Section (g m : Nat) (n : Int) (w : World) (h : Rdr w g (m + 14)) (hn : n ≤ 1000000) (hn' : -1000000 ≤ n) :
    Calls Try.prog 54 #[.pointer (some ⟨g, 0, none⟩), .int .i64 n] w (DrewSec g m w) := by
  have hg := h.lt
  go_enter Try.func54, Try.ntmps54
  go_wp2_with fail
  (go_at_call 47; (with_reducible refine (c_pick g (m+13) _ _ ?_ (by omega) (by omega)).mono ?_); (focus (repeat' (first | (with_reducible assumption) | (with_reducible refine Rdr.alloc ?_ _) | (with_reducible refine Rdr.setCell ?_ ?_ _) | (with_reducible refine Rdr.drewN ?_ _) | (with_reducible refine Rdr.drew ?_) | (show _ < _; first | omega | (simp only [size_alloc', size_setCell', size_drew', size_drewN'] at *; omega))))); rintro e w1 ⟨x1, rfl, hx1, hy1, hz1, hrq, hgq⟩; have hsq := hgq.size; (try simp only [size_alloc', size_setCell', size_drew', size_drewN'] at hsq); (try (refine keep_heap_g (b := w.heap.size) hgq ?_ ?_ ?_; (first | omega | (simp only [size_alloc', size_setCell', size_drew', size_drewN']; omega)); omega; intro hkq; simp only [heap_alloc_get, heap_setCell_get, heap_drew_get, heap_drewN_get, size_alloc', size_setCell', size_drew', size_drewN', nat_simp1, nat_simp2, nat_simp3, nat_simp4, nat_simp5, if_true, if_false, Option.map_some, *] at hkq; obtain ⟨_, _⟩ := blk_facts hkq)); (try (refine ne_cps (a := w.heap.size) (b := w1.heap.size) ?_ ?_; omega; intro _ _)); (try (refine ne_cps (a := w.heap.size) (b := w1.heap.size + 1) ?_ ?_; omega; intro _ _)); (try (refine ne_cps (a := w.heap.size) (b := w1.heap.size + 1 + 1) ?_ ?_; omega; intro _ _)); skip)
  have hx1' := hy1 (by omega)
  clear hy1 hz1
  go_wp2_with fail
  (go_at_call 47; (with_reducible refine (c_pick g (m+12) _ _ ?_ (by omega) (by omega)).mono ?_); (focus (repeat' (first | (with_reducible assumption) | (with_reducible refine Rdr.alloc ?_ _) | (with_reducible refine Rdr.setCell ?_ ?_ _) | (with_reducible refine Rdr.drewN ?_ _) | (with_reducible refine Rdr.drew ?_) | (show _ < _; first | omega | (simp only [size_alloc', size_setCell', size_drew', size_drewN'] at *; omega))))); rintro e w2 ⟨x2, rfl, hx2, hy2, hz2, hrq, hgq⟩; have hsq := hgq.size; (try simp only [size_alloc', size_setCell', size_drew', size_drewN'] at hsq); (try (refine keep_heap_g (b := w.heap.size) hgq ?_ ?_ ?_; (first | omega | (simp only [size_alloc', size_setCell', size_drew', size_drewN']; omega)); omega; intro hkq; simp only [heap_alloc_get, heap_setCell_get, heap_drew_get, heap_drewN_get, size_alloc', size_setCell', size_drew', size_drewN', nat_simp1, nat_simp2, nat_simp3, nat_simp4, nat_simp5, if_true, if_false, Option.map_some, *] at hkq; obtain ⟨_, _⟩ := blk_facts hkq)); (try (refine ne_cps (a := w.heap.size) (b := w2.heap.size) ?_ ?_; omega; intro _ _)); (try (refine ne_cps (a := w.heap.size) (b := w2.heap.size + 1) ?_ ?_; omega; intro _ _)); (try (refine ne_cps (a := w.heap.size) (b := w2.heap.size + 1 + 1) ?_ ?_; omega; intro _ _)); skip)
  have hx2' := hy2 (by omega)
  clear hy2 hz2
  have hi1 := small_I64 (x := x1) (by omega) (by omega)
  have hi2 := small_I64 (x := 1 + x2) (by omega) (by omega)
  have hRW := hkq
  go_wp2_with fail
  go_loopw [6] (fun i wr => ∃ (k : Nat) (l : List Int) (v : Value), i = .int .i64 k ∧ l.length = k ∧ (k : Int) ≤ 1 + x2 ∧ wr.ownsRow (w2.heap.size + 1) 3 1 v l.length (intCells l) ∧ (∀ a ∈ l, I64 a) ∧
      wr.heap[w.heap.size]? = some (.cells #[.int .i64 0, .int .i64 0, .slice none 0 0] 43 (0, 0)) ∧ wr.heap[w2.heap.size]? = some (.cells #[.int .i64 x1, .int .i64 (1 + x2), v] 43 (0, 0)) ∧
      Rdr wr g (m + 12 - 2 * k) ∧ w.grownBy wr (some g) ∧ w2.heap.size < wr.heap.size) (fun i _ => 10 - (intOf i).toNat)
  case atStart => exact ⟨0, [], _, rfl, rfl, by omega, ⟨rfl, .inl ⟨rfl, rfl⟩⟩, by simp, below_heap (bel1 _ _) hkq, heap_alloc_new _ _, hrq.alloc _, by have := kp_trans (kp_trans (kp_alloc (World.grownBy.refl w (some g)) _) ‹_›) hgq; exact kp_alloc this _, by simp⟩
  case round =>
    obtain ⟨k, l, v, rfl, hlk, hkx, hown, hli, hRr, hBr, hrk, hgk, hlt2⟩ := hrel
    obtain ⟨_, A, c, rfl, -, -, -⟩ := Rd.of_own hown
    have hL := Lib.hid hli
    have hG := Lib.hid hgk
    have hsk := hgk.size
    have hLK := Lib.hid hlk
    clear hli hgk hRW hkq hlk
    obtain ⟨_, _⟩ := blk_facts hRr
    obtain ⟨_, _⟩ := blk_facts hBr
    by_cases hlt : (k : Int) < 1 + x2
    · have hrk' : Rdr wr g ((m + 11 - 2 * k) + 1) := hrk.mono (by omega)
      go_wp2_with fail
      (go_at_call 47; (with_reducible refine (c_pick g (m+11-2*k) _ _ ?_ (by omega) (by omega)).mono ?_); (focus (repeat' (first | (with_reducible assumption) | (with_reducible refine Rdr.alloc ?_ _) | (with_reducible refine Rdr.setCell ?_ ?_ _) | (with_reducible refine Rdr.drewN ?_ _) | (with_reducible refine Rdr.drew ?_) | (show _ < _; first | omega | (simp only [size_alloc', size_setCell', size_drew', size_drewN'] at *; omega))))); rintro e w3 ⟨x3, rfl, hx3, hy3, hz3, hrq, hgq⟩; have hsq := hgq.size; (try simp only [size_alloc', size_setCell', size_drew', size_drewN'] at hsq); (try (refine keep_heap_g (b := w.heap.size) hgq ?_ ?_ ?_; (first | omega | (simp only [size_alloc', size_setCell', size_drew', size_drewN']; omega)); omega; intro hkq; simp only [heap_alloc_get, heap_setCell_get, heap_drew_get, heap_drewN_get, size_alloc', size_setCell', size_drew', size_drewN', nat_simp1, nat_simp2, nat_simp3, nat_simp4, nat_simp5, if_true, if_false, Option.map_some, *] at hkq; obtain ⟨_, _⟩ := blk_facts hkq)); (try (refine keep_heap_g (b := w2.heap.size) hgq ?_ ?_ ?_; (first | omega | (simp only [size_alloc', size_setCell', size_drew', size_drewN']; omega)); omega; intro hkq; simp only [heap_alloc_get, heap_setCell_get, heap_drew_get, heap_drewN_get, size_alloc', size_setCell', size_drew', size_drewN', nat_simp1, nat_simp2, nat_simp3, nat_simp4, nat_simp5, if_true, if_false, Option.map_some, *] at hkq; obtain ⟨_, _⟩ := blk_facts hkq)); (try (refine ne_cps (a := w.heap.size) (b := w3.heap.size) ?_ ?_; omega; intro _ _)); (try (refine ne_cps (a := w.heap.size) (b := w3.heap.size + 1) ?_ ?_; omega; intro _ _)); (try (refine ne_cps (a := w.heap.size) (b := w3.heap.size + 1 + 1) ?_ ?_; omega; intro _ _)); (try (refine ne_cps (a := w2.heap.size) (b := w3.heap.size) ?_ ?_; omega; intro _ _)); (try (refine ne_cps (a := w2.heap.size) (b := w3.heap.size + 1) ?_ ?_; omega; intro _ _)); (try (refine ne_cps (a := w2.heap.size) (b := w3.heap.size + 1 + 1) ?_ ?_; omega; intro _ _)); skip)
      have hO3 := Lib.hid (own_pick hown hgq (by omega))
      have hG3 := Lib.hid (kp_trans hG.out hgq)
      clear hown
      by_cases hpos : 0 < x3
      · have hrk3 : Rdr w3 g ((m + 10 - 2 * k) + 1) := hrq.mono (by omega)
        have hR3 : w3.heap[w.heap.size]? = some (.cells #[.int .i64 0, .int .i64 0, .slice none 0 0] 43 (0, 0)) := by assumption
        have hB3 : w3.heap[w2.heap.size]? = some (.cells #[.int .i64 x1, .int .i64 (1 + x2), .slice A l.length c] 43 (0, 0)) := by assumption
        have HR3 := Lib.hid hR3
        have hl8 : l.length ≤ 3 := by have := hLK.out; omega
        have HB3 := Lib.hid hB3
        go_wp2_with fail
        go_region_law (first
          | (go_simp; go_at_call 47; (with_reducible refine (c_pick g (m+10-2*k) _ _ ?_ (by omega) (by omega)).mono ?_); (focus exact hrk3.drew); rintro e w4 ⟨x4, rfl, hx4, hy4, hz4, hrq, hgq⟩; have hx4' := hy4 (by omega); clear hy4 hz4; have hO4 := own_pick (w := w3.drew) hO3.out hgq (by omega); have hG4 := kp_trans (kp_drew hG3.out) hgq; have hR4 := heap_kp (W := w3.drew) hgq HR3.out (by omega); have hB4 := heap_kp (W := w3.drew) hgq HB3.out (by omega); have hz4 : w3.heap.size ≤ w4.heap.size := hgq.size; clear hgq; obtain ⟨_, _⟩ := blk_facts hB4; have hne4 : (w2.heap.size = w4.heap.size) = False := eq_false (by omega); have hne4' : (w4.heap.size = w2.heap.size) = False := eq_false (by omega); have hBal := below_heap (bel1 w4 (.cells #[.int .i64 x4] 3 (0, 0))) hB4; obtain ⟨_, _⟩ := blk_facts hBal)
          | (refine step_ints rfl (.tmp 25) (.tmp 28) rfl (w2.heap.size + 1) _ l rfl (hO4.alloc _) w4.heap.size [x4] 1 rfl (by omega) rfl 3 (heap_alloc_new _ _) (by omega) (by simp; omega) ?_; intro g5 cap5 w5 hown5 hgr5 hlt5; have hR5 := heap_app (hO4.alloc _) hgr5 (below_heap (bel1 _ _) hR4) (by omega); have hB5 := heap_app (hO4.alloc _) hgr5 (below_heap (bel1 _ _) hB4) (by omega); have R5 := rdr_append (hrq.alloc _) (hO4.alloc _) hgr5 (by omega); have K5 := kp_append (kp_alloc hG4 _) (hO4.alloc _) hgr5 (by omega); have hz5 := hgr5.size; clear hgr5; obtain ⟨_, _⟩ := blk_facts hB5))
        all_goals
          have HO5 := Lib.hid hown5
          have HR5 := Lib.hid hR5
          have HB5 := Lib.hid (show (w5.setCell ⟨w2.heap.size, 2, none⟩ (.slice (some ⟨g5, 0, none⟩) (l.length + 1) cap5)).heap[w2.heap.size]? = some (.cells #[.int .i64 x1, .int .i64 (1 + x2), .slice (some ⟨g5, 0, none⟩) (l.length + 1) cap5] 43 (0, 0)) by (simp only [heap_alloc_get, heap_setCell_get, heap_drew_get, heap_drewN_get, size_alloc', size_setCell', size_drew', size_drewN', nat_simp1, nat_simp2, nat_simp3, nat_simp4, nat_simp5, if_true, if_false, Option.map_some, *]; first | done | rfl | simp))
          have HR5' := Lib.hid (show (w5.setCell ⟨w2.heap.size, 2, none⟩ (.slice (some ⟨g5, 0, none⟩) (l.length + 1) cap5)).heap[w.heap.size]? = some (.cells #[.int .i64 0, .int .i64 0, .slice none 0 0] 43 (0, 0)) by (simp only [heap_alloc_get, heap_setCell_get, heap_drew_get, heap_drewN_get, size_alloc', size_setCell', size_drew', size_drewN', nat_simp1, nat_simp2, nat_simp3, nat_simp4, nat_simp5, if_true, if_false, Option.map_some, *]; first | done | rfl | simp))
          simp only [size_alloc'] at hz5
          clear hown5 hR5 hB5
          go_wp2_with fail
          go_roundw
          case rel =>
            refine ⟨k + 1, l ++ [x4], _, by go_num, by rw [List.length_append, hLK.out]; rfl, by omega, ?_, all_snoc hL.out (small_I64 (by omega) (by omega)), HR5'.out, HB5.out, ?_, ?_, ?_⟩
            · exact ownsRow_setCell_below (own_len HO5.out (by simp)) (Nat.lt_succ_self _) _
            · refine Rdr.mono (m := m + 10 - 2 * k) ?_ (by omega); (repeat' (first | (with_reducible assumption) | (with_reducible refine Rdr.alloc ?_ _) | (with_reducible refine Rdr.setCell ?_ ?_ _) | (with_reducible refine Rdr.drewN ?_ _) | (with_reducible refine Rdr.drew ?_) | (show _ < _; first | omega | (simp only [size_alloc', size_setCell', size_drew', size_drewN'] at *; omega))))
            · (repeat' (first | (with_reducible exact World.grownBy.refl _ _) | (with_reducible refine kp_setCell ?_ ?_ _) | (with_reducible refine kp_alloc ?_ _) | (with_reducible refine kp_drew ?_) | (with_reducible refine kp_drewN ?_ _) | (with_reducible refine kp_trans ?_ (by with_reducible assumption)) | (show _ ∨ _; first | (left; omega) | (right; omega) | (right; simp only [size_alloc', size_setCell', size_drew', size_drewN'] at *; omega)) | (with_reducible refine kp_below ?_ (by with_reducible assumption))))
            · rw [size_setCell']; omega
          case measure => simp [intOf]; omega
      · have hle : (l.length : Int) < 1 + x2 := by rw [hLK.out]; exact hlt
        have hB3 : w3.heap[w2.heap.size]? = some (.cells #[.int .i64 x1, .int .i64 (1 + x2), .slice A l.length c] 43 (0, 0)) := by assumption
        have hR3 : w3.heap[w.heap.size]? = some (.cells #[.int .i64 0, .int .i64 0, .slice none 0 0] 43 (0, 0)) := by assumption
        have HBW := Lib.hid (show (w3.setCell ⟨w2.heap.size, 2, none⟩ (.slice none 0 0)).heap[w2.heap.size]? = some (.cells #[.int .i64 x1, .int .i64 (1 + x2), .slice none 0 0] 43 (0, 0)) by (simp only [heap_alloc_get, heap_setCell_get, heap_drew_get, heap_drewN_get, size_alloc', size_setCell', size_drew', size_drewN', nat_simp1, nat_simp2, nat_simp3, nat_simp4, nat_simp5, if_true, if_false, Option.map_some, *]; first | done | rfl | simp))
        have HRW := Lib.hid (show (w3.setCell ⟨w2.heap.size, 2, none⟩ (.slice none 0 0)).heap[w.heap.size]? = some (.cells #[.int .i64 0, .int .i64 0, .slice none 0 0] 43 (0, 0)) by (simp only [heap_alloc_get, heap_setCell_get, heap_drew_get, heap_drewN_get, size_alloc', size_setCell', size_drew', size_drewN', nat_simp1, nat_simp2, nat_simp3, nat_simp4, nat_simp5, if_true, if_false, Option.map_some, *]; first | done | rfl | simp))
        have hgW := Lib.hid (kp_setCell hG3.out (p := ⟨w2.heap.size, 2, none⟩) (.inr (by show w.heap.size ≤ w2.heap.size; omega)) (.slice none 0 0))
        have hrk := hrq.setCell (p := ⟨w2.heap.size, 2, none⟩) (by show g < w2.heap.size; omega) (.slice none 0 0)
        have hWs : w3.heap.size ≤ (w3.setCell ⟨w2.heap.size, 2, none⟩ (.slice none 0 0)).heap.size := by rw [size_setCell']; omega
        go_wp2_with fail
        generalize w3.setCell ⟨w2.heap.size, 2, none⟩ (.slice none 0 0) = W at *
        clear hlt hle hLK hL hB3 hR3
        obtain ⟨l, A, c, hv2, hnil⟩ : ∃ (l : List Int) (A : Option Addr) (c : Nat), Value.slice none 0 0 = .slice A l.length c ∧ (l = [] ∧ A = none ∧ c = 0) := ⟨[], none, 0, rfl, rfl, rfl, rfl⟩
        have hown : W.ownsRow (w2.heap.size + 1) 3 1 (.slice A l.length c) l.length (intCells l) := by obtain ⟨rfl, rfl, rfl⟩ := hnil; exact ⟨rfl, .inl ⟨rfl, rfl⟩⟩
        have hL := Lib.hid (show ∀ a ∈ l, I64 a by rw [hnil.1]; simp)
        have hl8 : l.length ≤ 3 := by rw [hnil.1]; simp
        have hRW := HRW.out
        have hBW := HBW.out
        rw [hv2] at hBW
        have hV2 := Lib.hid hv2
        clear hv2 hnil HBW HRW
        obtain ⟨_, _⟩ := blk_facts hRW
        obtain ⟨_, _⟩ := blk_facts hBW
        have hOW := Lib.hid hown
        have hrW : Rdr W g ((m + 3) + 1) := hrk.mono (by omega)
        clear hown
        (go_at_call 66; (with_reducible refine (c_odd g (m+3) _ _ ?_ hn hn').mono ?_); (focus (repeat' (first | (with_reducible assumption) | (with_reducible refine Rdr.alloc ?_ _) | (with_reducible refine Rdr.setCell ?_ ?_ _) | (with_reducible refine Rdr.drewN ?_ _) | (with_reducible refine Rdr.drew ?_) | (show _ < _; first | omega | (simp only [size_alloc', size_setCell', size_drew', size_drewN'] at *; omega))))); rintro e w5 ⟨b5, rfl, hrq, hgq⟩; have hsq := hgq.size; (try simp only [size_alloc', size_setCell', size_drew', size_drewN'] at hsq); (try (refine keep_heap_g (b := w.heap.size) hgq ?_ ?_ ?_; (first | omega | (simp only [size_alloc', size_setCell', size_drew', size_drewN']; omega)); omega; intro hkq; simp only [heap_alloc_get, heap_setCell_get, heap_drew_get, heap_drewN_get, size_alloc', size_setCell', size_drew', size_drewN', nat_simp1, nat_simp2, nat_simp3, nat_simp4, nat_simp5, if_true, if_false, Option.map_some, *] at hkq; obtain ⟨_, _⟩ := blk_facts hkq)); (try (refine keep_heap_g (b := w2.heap.size) hgq ?_ ?_ ?_; (first | omega | (simp only [size_alloc', size_setCell', size_drew', size_drewN']; omega)); omega; intro hkq; simp only [heap_alloc_get, heap_setCell_get, heap_drew_get, heap_drewN_get, size_alloc', size_setCell', size_drew', size_drewN', nat_simp1, nat_simp2, nat_simp3, nat_simp4, nat_simp5, if_true, if_false, Option.map_some, *] at hkq; obtain ⟨_, _⟩ := blk_facts hkq)); (try (refine ne_cps (a := w.heap.size) (b := w5.heap.size) ?_ ?_; omega; intro _ _)); (try (refine ne_cps (a := w.heap.size) (b := w5.heap.size + 1) ?_ ?_; omega; intro _ _)); (try (refine ne_cps (a := w.heap.size) (b := w5.heap.size + 1 + 1) ?_ ?_; omega; intro _ _)); (try (refine ne_cps (a := w2.heap.size) (b := w5.heap.size) ?_ ?_; omega; intro _ _)); (try (refine ne_cps (a := w2.heap.size) (b := w5.heap.size + 1) ?_ ?_; omega; intro _ _)); (try (refine ne_cps (a := w2.heap.size) (b := w5.heap.size + 1 + 1) ?_ ?_; omega; intro _ _)); skip)
        have hO5 := Lib.hid (own_pick hOW.out hgq (by omega))
        have hG5 := Lib.hid (kp_trans hgW.out hgq)
        cases b5
        · go_wp2_with fail
          (refine bodyPost_ret (results_cell_row rfl _ _ (w.heap.size) 43 #[.int .i64 x1, .int .i64 (1 + x2), .slice A l.length c] (0, 0) _ rfl ?_ Try.underlying43 rfl (by kernel_rfl)) rfl ?_)
          · (simp only [heap_alloc_get, heap_setCell_get, heap_drew_get, heap_drewN_get, size_alloc', size_setCell', size_drew', size_drewN', nat_simp1, nat_simp2, nat_simp3, nat_simp4, nat_simp5, if_true, if_false, Option.map_some, *]; first | done | rfl | simp)
          · exact ⟨x1, 1 + x2, _, l, rfl, by (refine own_mono (base := w2.heap.size + 1) ?_ (by omega); (repeat' (first | (with_reducible exact hO5.out) | (with_reducible refine ownsRow_setCell_below ?_ ?_ _) | (with_reducible refine World.ownsRow.alloc ?_ _) | (show _ < _; first | omega | (simp only [size_alloc', size_setCell', size_drew', size_drewN'] at *; omega))))), by omega, hi1, hi2, hL.out, by refine Rdr.mono (m := m + 3) ?_ (by omega); (repeat' (first | (with_reducible assumption) | (with_reducible refine Rdr.alloc ?_ _) | (with_reducible refine Rdr.setCell ?_ ?_ _) | (with_reducible refine Rdr.drewN ?_ _) | (with_reducible refine Rdr.drew ?_) | (show _ < _; first | omega | (simp only [size_alloc', size_setCell', size_drew', size_drewN'] at *; omega)))), by have := hG5.out; (repeat' (first | (with_reducible exact World.grownBy.refl _ _) | (with_reducible refine kp_setCell ?_ ?_ _) | (with_reducible refine kp_alloc ?_ _) | (with_reducible refine kp_drew ?_) | (with_reducible refine kp_drewN ?_ _) | (with_reducible refine kp_trans ?_ (by with_reducible assumption)) | (show _ ∨ _; first | (left; omega) | (right; omega) | (right; simp only [size_alloc', size_setCell', size_drew', size_drewN'] at *; omega)) | (with_reducible refine kp_below ?_ (by with_reducible assumption))))⟩
        · go_wp2_with fail
          (go_at_call 47; (with_reducible refine (c_pick g (m+2) _ _ ?_ (by omega) (by omega)).mono ?_); (focus (repeat' (first | (with_reducible assumption) | (with_reducible refine Rdr.alloc ?_ _) | (with_reducible refine Rdr.setCell ?_ ?_ _) | (with_reducible refine Rdr.drewN ?_ _) | (with_reducible refine Rdr.drew ?_) | (show _ < _; first | omega | (simp only [size_alloc', size_setCell', size_drew', size_drewN'] at *; omega))))); rintro e w6 ⟨x6, rfl, hx6, hy6, hz6, hrq, hgq⟩; have hsq := hgq.size; (try simp only [size_alloc', size_setCell', size_drew', size_drewN'] at hsq); (try (refine keep_heap_g (b := w.heap.size) hgq ?_ ?_ ?_; (first | omega | (simp only [size_alloc', size_setCell', size_drew', size_drewN']; omega)); omega; intro hkq; simp only [heap_alloc_get, heap_setCell_get, heap_drew_get, heap_drewN_get, size_alloc', size_setCell', size_drew', size_drewN', nat_simp1, nat_simp2, nat_simp3, nat_simp4, nat_simp5, if_true, if_false, Option.map_some, *] at hkq; obtain ⟨_, _⟩ := blk_facts hkq)); (try (refine keep_heap_g (b := w2.heap.size) hgq ?_ ?_ ?_; (first | omega | (simp only [size_alloc', size_setCell', size_drew', size_drewN']; omega)); omega; intro hkq; simp only [heap_alloc_get, heap_setCell_get, heap_drew_get, heap_drewN_get, size_alloc', size_setCell', size_drew', size_drewN', nat_simp1, nat_simp2, nat_simp3, nat_simp4, nat_simp5, if_true, if_false, Option.map_some, *] at hkq; obtain ⟨_, _⟩ := blk_facts hkq)); (try (refine ne_cps (a := w.heap.size) (b := w6.heap.size) ?_ ?_; omega; intro _ _)); (try (refine ne_cps (a := w.heap.size) (b := w6.heap.size + 1) ?_ ?_; omega; intro _ _)); (try (refine ne_cps (a := w.heap.size) (b := w6.heap.size + 1 + 1) ?_ ?_; omega; intro _ _)); (try (refine ne_cps (a := w2.heap.size) (b := w6.heap.size) ?_ ?_; omega; intro _ _)); (try (refine ne_cps (a := w2.heap.size) (b := w6.heap.size + 1) ?_ ?_; omega; intro _ _)); (try (refine ne_cps (a := w2.heap.size) (b := w6.heap.size + 1 + 1) ?_ ?_; omega; intro _ _)); skip)
          have hx6' := hy6 (by omega)
          clear hy6 hz6
          have hO6 := Lib.hid (own_pick hO5.out hgq (by omega))
          have hG6 := Lib.hid (kp_trans hG5.out hgq)
          have h06 : x6 = 0 ∨ x6 = 1 ∨ x6 = 2 ∨ x6 = 3 := by omega
          clear hx6 hx6'
          rcases h06 with rfl | rfl | rfl | rfl
          · go_wp2_with fail
            (go_at_call 47; (with_reducible refine (c_pick g (m+1) _ _ ?_ (by omega) (by omega)).mono ?_); (focus (repeat' (first | (with_reducible assumption) | (with_reducible refine Rdr.alloc ?_ _) | (with_reducible refine Rdr.setCell ?_ ?_ _) | (with_reducible refine Rdr.drewN ?_ _) | (with_reducible refine Rdr.drew ?_) | (show _ < _; first | omega | (simp only [size_alloc', size_setCell', size_drew', size_drewN'] at *; omega))))); rintro e w7 ⟨x7, rfl, hx7, hy7, hz7, hrq, hgq⟩; have hsq := hgq.size; (try simp only [size_alloc', size_setCell', size_drew', size_drewN'] at hsq); (try (refine keep_heap_g (b := w.heap.size) hgq ?_ ?_ ?_; (first | omega | (simp only [size_alloc', size_setCell', size_drew', size_drewN']; omega)); omega; intro hkq; simp only [heap_alloc_get, heap_setCell_get, heap_drew_get, heap_drewN_get, size_alloc', size_setCell', size_drew', size_drewN', nat_simp1, nat_simp2, nat_simp3, nat_simp4, nat_simp5, if_true, if_false, Option.map_some, *] at hkq; obtain ⟨_, _⟩ := blk_facts hkq)); (try (refine keep_heap_g (b := w2.heap.size) hgq ?_ ?_ ?_; (first | omega | (simp only [size_alloc', size_setCell', size_drew', size_drewN']; omega)); omega; intro hkq; simp only [heap_alloc_get, heap_setCell_get, heap_drew_get, heap_drewN_get, size_alloc', size_setCell', size_drew', size_drewN', nat_simp1, nat_simp2, nat_simp3, nat_simp4, nat_simp5, if_true, if_false, Option.map_some, *] at hkq; obtain ⟨_, _⟩ := blk_facts hkq)); (try (refine keep_heap_g (b := w6.heap.size) hgq ?_ ?_ ?_; (first | omega | (simp only [size_alloc', size_setCell', size_drew', size_drewN']; omega)); omega; intro hkq; simp only [heap_alloc_get, heap_setCell_get, heap_drew_get, heap_drewN_get, size_alloc', size_setCell', size_drew', size_drewN', nat_simp1, nat_simp2, nat_simp3, nat_simp4, nat_simp5, if_true, if_false, Option.map_some, *] at hkq)); (try (refine ne_cps (a := w.heap.size) (b := w7.heap.size) ?_ ?_; omega; intro _ _)); (try (refine ne_cps (a := w.heap.size) (b := w7.heap.size + 1) ?_ ?_; omega; intro _ _)); (try (refine ne_cps (a := w.heap.size) (b := w7.heap.size + 1 + 1) ?_ ?_; omega; intro _ _)); (try (refine ne_cps (a := w2.heap.size) (b := w7.heap.size) ?_ ?_; omega; intro _ _)); (try (refine ne_cps (a := w2.heap.size) (b := w7.heap.size + 1) ?_ ?_; omega; intro _ _)); (try (refine ne_cps (a := w2.heap.size) (b := w7.heap.size + 1 + 1) ?_ ?_; omega; intro _ _)); (try (refine ne_cps (a := w6.heap.size) (b := w7.heap.size) ?_ ?_; omega; intro _ _)); (try (refine ne_cps (a := w6.heap.size) (b := w7.heap.size + 1) ?_ ?_; omega; intro _ _)); (try (refine ne_cps (a := w6.heap.size) (b := w7.heap.size + 1 + 1) ?_ ?_; omega; intro _ _)); skip)
            have hx7' := hy7 (by omega)
            obtain ⟨y7, hc7, hm7⟩ := at_list [-1, 13] (W := w7) (b := w6.heap.size) (by assumption) x7 hx7 (by simpa using hx7')
            have hi7 := list_I64 (by decide) hm7
            have hO7 := Lib.hid (own_pick (hO6.out.alloc _) hgq (by omega))
            have hG7 := Lib.hid (kp_trans (kp_alloc hG6.out _) hgq)
            go_wp2_with fail
            (refine bodyPost_ret (results_cell_row rfl _ _ (w.heap.size) 43 #[.int .i64 y7, .int .i64 (1 + x2), .slice A l.length c] (0, 0) _ rfl ?_ Try.underlying43 rfl (by kernel_rfl)) rfl ?_)
            · (simp only [heap_alloc_get, heap_setCell_get, heap_drew_get, heap_drewN_get, size_alloc', size_setCell', size_drew', size_drewN', nat_simp1, nat_simp2, nat_simp3, nat_simp4, nat_simp5, if_true, if_false, Option.map_some, *]; first | done | rfl | simp)
            · exact ⟨y7, 1 + x2, _, l, rfl, by (refine own_mono (base := w2.heap.size + 1) ?_ (by omega); (repeat' (first | (with_reducible exact hO7.out) | (with_reducible refine ownsRow_setCell_below ?_ ?_ _) | (with_reducible refine World.ownsRow.alloc ?_ _) | (show _ < _; first | omega | (simp only [size_alloc', size_setCell', size_drew', size_drewN'] at *; omega))))), by omega, hi7, hi2, hL.out, by refine Rdr.mono (m := m + 1) ?_ (by omega); (repeat' (first | (with_reducible assumption) | (with_reducible refine Rdr.alloc ?_ _) | (with_reducible refine Rdr.setCell ?_ ?_ _) | (with_reducible refine Rdr.drewN ?_ _) | (with_reducible refine Rdr.drew ?_) | (show _ < _; first | omega | (simp only [size_alloc', size_setCell', size_drew', size_drewN'] at *; omega)))), by have := hG7.out; (repeat' (first | (with_reducible exact World.grownBy.refl _ _) | (with_reducible refine kp_setCell ?_ ?_ _) | (with_reducible refine kp_alloc ?_ _) | (with_reducible refine kp_drew ?_) | (with_reducible refine kp_drewN ?_ _) | (with_reducible refine kp_trans ?_ (by with_reducible assumption)) | (show _ ∨ _; first | (left; omega) | (right; omega) | (right; simp only [size_alloc', size_setCell', size_drew', size_drewN'] at *; omega)) | (with_reducible refine kp_below ?_ (by with_reducible assumption))))⟩
          · go_wp2_with fail
            (go_at_call 47; (with_reducible refine (c_pick g (m+1) _ _ ?_ (by omega) (by omega)).mono ?_); (focus (repeat' (first | (with_reducible assumption) | (with_reducible refine Rdr.alloc ?_ _) | (with_reducible refine Rdr.setCell ?_ ?_ _) | (with_reducible refine Rdr.drewN ?_ _) | (with_reducible refine Rdr.drew ?_) | (show _ < _; first | omega | (simp only [size_alloc', size_setCell', size_drew', size_drewN'] at *; omega))))); rintro e w7 ⟨x7, rfl, hx7, hy7, hz7, hrq, hgq⟩; have hsq := hgq.size; (try simp only [size_alloc', size_setCell', size_drew', size_drewN'] at hsq); (try (refine keep_heap_g (b := w.heap.size) hgq ?_ ?_ ?_; (first | omega | (simp only [size_alloc', size_setCell', size_drew', size_drewN']; omega)); omega; intro hkq; simp only [heap_alloc_get, heap_setCell_get, heap_drew_get, heap_drewN_get, size_alloc', size_setCell', size_drew', size_drewN', nat_simp1, nat_simp2, nat_simp3, nat_simp4, nat_simp5, if_true, if_false, Option.map_some, *] at hkq; obtain ⟨_, _⟩ := blk_facts hkq)); (try (refine keep_heap_g (b := w2.heap.size) hgq ?_ ?_ ?_; (first | omega | (simp only [size_alloc', size_setCell', size_drew', size_drewN']; omega)); omega; intro hkq; simp only [heap_alloc_get, heap_setCell_get, heap_drew_get, heap_drewN_get, size_alloc', size_setCell', size_drew', size_drewN', nat_simp1, nat_simp2, nat_simp3, nat_simp4, nat_simp5, if_true, if_false, Option.map_some, *] at hkq; obtain ⟨_, _⟩ := blk_facts hkq)); (try (refine keep_heap_g (b := w6.heap.size) hgq ?_ ?_ ?_; (first | omega | (simp only [size_alloc', size_setCell', size_drew', size_drewN']; omega)); omega; intro hkq; simp only [heap_alloc_get, heap_setCell_get, heap_drew_get, heap_drewN_get, size_alloc', size_setCell', size_drew', size_drewN', nat_simp1, nat_simp2, nat_simp3, nat_simp4, nat_simp5, if_true, if_false, Option.map_some, *] at hkq)); (try (refine ne_cps (a := w.heap.size) (b := w7.heap.size) ?_ ?_; omega; intro _ _)); (try (refine ne_cps (a := w.heap.size) (b := w7.heap.size + 1) ?_ ?_; omega; intro _ _)); (try (refine ne_cps (a := w.heap.size) (b := w7.heap.size + 1 + 1) ?_ ?_; omega; intro _ _)); (try (refine ne_cps (a := w2.heap.size) (b := w7.heap.size) ?_ ?_; omega; intro _ _)); (try (refine ne_cps (a := w2.heap.size) (b := w7.heap.size + 1) ?_ ?_; omega; intro _ _)); (try (refine ne_cps (a := w2.heap.size) (b := w7.heap.size + 1 + 1) ?_ ?_; omega; intro _ _)); (try (refine ne_cps (a := w6.heap.size) (b := w7.heap.size) ?_ ?_; omega; intro _ _)); (try (refine ne_cps (a := w6.heap.size) (b := w7.heap.size + 1) ?_ ?_; omega; intro _ _)); (try (refine ne_cps (a := w6.heap.size) (b := w7.heap.size + 1 + 1) ?_ ?_; omega; intro _ _)); skip)
            have hx7' := hy7 (by omega)
            obtain ⟨y7, hc7, hm7⟩ := at_list [0, 5] (W := w7) (b := w6.heap.size) (by assumption) x7 hx7 (by simpa using hx7')
            have hi7 := list_I64 (by decide) hm7
            have hO7 := Lib.hid (own_pick (hO6.out.alloc _) hgq (by omega))
            have hG7 := Lib.hid (kp_trans (kp_alloc hG6.out _) hgq)
            go_wp2_with fail
            (refine bodyPost_ret (results_cell_row rfl _ _ (w.heap.size) 43 #[.int .i64 x1, .int .i64 y7, .slice A l.length c] (0, 0) _ rfl ?_ Try.underlying43 rfl (by kernel_rfl)) rfl ?_)
            · (simp only [heap_alloc_get, heap_setCell_get, heap_drew_get, heap_drewN_get, size_alloc', size_setCell', size_drew', size_drewN', nat_simp1, nat_simp2, nat_simp3, nat_simp4, nat_simp5, if_true, if_false, Option.map_some, *]; first | done | rfl | simp)
            · exact ⟨x1, y7, _, l, rfl, by (refine own_mono (base := w2.heap.size + 1) ?_ (by omega); (repeat' (first | (with_reducible exact hO7.out) | (with_reducible refine ownsRow_setCell_below ?_ ?_ _) | (with_reducible refine World.ownsRow.alloc ?_ _) | (show _ < _; first | omega | (simp only [size_alloc', size_setCell', size_drew', size_drewN'] at *; omega))))), by omega, hi1, hi7, hL.out, by refine Rdr.mono (m := m + 1) ?_ (by omega); (repeat' (first | (with_reducible assumption) | (with_reducible refine Rdr.alloc ?_ _) | (with_reducible refine Rdr.setCell ?_ ?_ _) | (with_reducible refine Rdr.drewN ?_ _) | (with_reducible refine Rdr.drew ?_) | (show _ < _; first | omega | (simp only [size_alloc', size_setCell', size_drew', size_drewN'] at *; omega)))), by have := hG7.out; (repeat' (first | (with_reducible exact World.grownBy.refl _ _) | (with_reducible refine kp_setCell ?_ ?_ _) | (with_reducible refine kp_alloc ?_ _) | (with_reducible refine kp_drew ?_) | (with_reducible refine kp_drewN ?_ _) | (with_reducible refine kp_trans ?_ (by with_reducible assumption)) | (show _ ∨ _; first | (left; omega) | (right; omega) | (right; simp only [size_alloc', size_setCell', size_drew', size_drewN'] at *; omega)) | (with_reducible refine kp_below ?_ (by with_reducible assumption))))⟩
          · have hRd := hrq.alloc (.cells #[.int .i64 1, .int .i64 1] 3 (0, 0))
            have hBa : (w6.alloc (.cells #[.int .i64 1, .int .i64 1] 3 (0, 0))).heap[w2.heap.size]? = some (.cells #[.int .i64 x1, .int .i64 (1 + x2), .slice A l.length c] 43 (0, 0)) := by (simp only [heap_alloc_get, heap_setCell_get, heap_drew_get, heap_drewN_get, size_alloc', size_setCell', size_drew', size_drewN', nat_simp1, nat_simp2, nat_simp3, nat_simp4, nat_simp5, if_true, if_false, Option.map_some, *]; first | done | rfl | simp)
            have hRa : (w6.alloc (.cells #[.int .i64 1, .int .i64 1] 3 (0, 0))).heap[w.heap.size]? = some (.cells #[.int .i64 0, .int .i64 0, .slice none 0 0] 43 (0, 0)) := by (simp only [heap_alloc_get, heap_setCell_get, heap_drew_get, heap_drewN_get, size_alloc', size_setCell', size_drew', size_drewN', nat_simp1, nat_simp2, nat_simp3, nat_simp4, nat_simp5, if_true, if_false, Option.map_some, *]; first | done | rfl | simp)
            have hOa := Lib.hid (hO6.out.alloc (.cells #[.int .i64 1, .int .i64 1] 3 (0, 0)))
            have hGa := Lib.hid (kp_alloc hG6.out (.cells #[.int .i64 1, .int .i64 1] 3 (0, 0)))
            have HBa := Lib.hid hBa
            have HRa := Lib.hid hRa
            clear hBa hRa
            go_wp2_with (at_builtin; refine wp_ints rfl (.tmp 69) (.tmp 70) rfl (w2.heap.size + 1) _ l rfl hOa.out w6.heap.size [1, 1] 2 rfl (by omega) rfl 3 (heap_alloc_new _ _) (by omega) ?c2 ?_)
            case c2 => simp; omega
            intro g7 cap7 w7 hown7 hgr7 hlt7
            have hRW7 := heap_app hOa.out hgr7 HRa.out (by omega)
            have hBW7 := heap_app hOa.out hgr7 HBa.out (by omega)
            have R7 := rdr_append hRd hOa.out hgr7 (by omega)
            have K7 := kp_append hGa.out hOa.out hgr7 (by omega)
            have HO7 := Lib.hid hown7
            have hz7 := hgr7.size
            simp only [size_alloc'] at hz7
            clear hown7 hgr7
            obtain ⟨_, _⟩ := blk_facts hRW7
            obtain ⟨_, _⟩ := blk_facts hBW7
            go_wp2_with fail
            (refine bodyPost_ret (results_cell_row rfl _ _ (w.heap.size) 43 #[.int .i64 x1, .int .i64 (1 + x2), .slice (some ⟨g7, 0, none⟩) (l.length + 2) cap7] (0, 0) _ rfl ?_ Try.underlying43 rfl (by kernel_rfl)) rfl ?_)
            · (simp only [heap_alloc_get, heap_setCell_get, heap_drew_get, heap_drewN_get, size_alloc', size_setCell', size_drew', size_drewN', nat_simp1, nat_simp2, nat_simp3, nat_simp4, nat_simp5, if_true, if_false, Option.map_some, *]; first | done | rfl | simp)
            · exact ⟨x1, 1 + x2, _, l ++ [1, 1], rfl, by (refine own_mono (base := w2.heap.size + 1) ?_ (by omega); (repeat' (first | (with_reducible exact (own_len HO7.out (by simp))) | (with_reducible refine ownsRow_setCell_below ?_ ?_ _) | (with_reducible refine World.ownsRow.alloc ?_ _) | (show _ < _; first | omega | (simp only [size_alloc', size_setCell', size_drew', size_drewN'] at *; omega))))), by simp; omega, hi1, hi2, all_snoc2 hL.out, by refine Rdr.mono (m := m + 2) ?_ (by omega); (repeat' (first | (with_reducible assumption) | (with_reducible refine Rdr.alloc ?_ _) | (with_reducible refine Rdr.setCell ?_ ?_ _) | (with_reducible refine Rdr.drewN ?_ _) | (with_reducible refine Rdr.drew ?_) | (show _ < _; first | omega | (simp only [size_alloc', size_setCell', size_drew', size_drewN'] at *; omega)))), by (repeat' (first | (with_reducible exact World.grownBy.refl _ _) | (with_reducible refine kp_setCell ?_ ?_ _) | (with_reducible refine kp_alloc ?_ _) | (with_reducible refine kp_drew ?_) | (with_reducible refine kp_drewN ?_ _) | (with_reducible refine kp_trans ?_ (by with_reducible assumption)) | (show _ ∨ _; first | (left; omega) | (right; omega) | (right; simp only [size_alloc', size_setCell', size_drew', size_drewN'] at *; omega)) | (with_reducible refine kp_below ?_ (by with_reducible assumption))))⟩
          · have h2 : x2 = 0 ∨ x2 = 1 ∨ x2 = 2 := by omega
            rcases h2 with h2 | h2 | h2
            · have hx : 1 + x2 = 1 := by omega
              have hmk : ∀ W, (Instr.makeSlice 41 (.int .i64 (1 + x2)) (.int .i64 (1 + x2))).run Try.prog W = .ok (.slice (some ⟨W.heap.size, 0, none⟩) 1 1) (W.alloc (.cells #[.int .i64 0] 3)) := by
                intro W
                rw [hx]
                kernel_rfl
              have hne : (w2.heap.size = w6.heap.size) = False := eq_false (by omega)
              have hne' : (w6.heap.size = w2.heap.size) = False := eq_false (by omega)
              have hneR : (w.heap.size = w6.heap.size) = False := eq_false (by omega)
              have hneR' : (w6.heap.size = w.heap.size) = False := eq_false (by omega)
              have hneB : (w.heap.size = w2.heap.size) = False := eq_false (by omega)
              have hneB' : (w2.heap.size = w.heap.size) = False := eq_false (by omega)
              clear h2 hx
              have hB6 : w6.heap[w2.heap.size]? = some (.cells #[.int .i64 x1, .int .i64 (1 + x2), .slice A l.length c] 43 (0, 0)) := by assumption
              have hBal := below_heap (bel1 w6 (.cells #[.int .i64 0] 3)) hB6
              have hBs : ((w6.alloc (.cells #[.int .i64 0] 3)).setCell ⟨w2.heap.size, 2, none⟩ (.slice (some ⟨w6.heap.size, 0, none⟩) 1 1)).heap[w2.heap.size]? = some (.cells #[.int .i64 x1, .int .i64 (1 + x2), .slice (some ⟨w6.heap.size, 0, none⟩) 1 1] 43 (0, 0)) := by (simp only [heap_alloc_get, heap_setCell_get, heap_drew_get, heap_drewN_get, size_alloc', size_setCell', size_drew', size_drewN', nat_simp1, nat_simp2, nat_simp3, nat_simp4, nat_simp5, if_true, if_false, Option.map_some, *]; first | done | rfl | simp)
              have hNs : ((w6.alloc (.cells #[.int .i64 0] 3)).setCell ⟨w2.heap.size, 2, none⟩ (.slice (some ⟨w6.heap.size, 0, none⟩) 1 1)).heap[w6.heap.size]? = some (.cells #[.int .i64 0] 3 (0, 0)) := by (simp only [heap_alloc_get, heap_setCell_get, heap_drew_get, heap_drewN_get, size_alloc', size_setCell', size_drew', size_drewN', nat_simp1, nat_simp2, nat_simp3, nat_simp4, nat_simp5, if_true, if_false, Option.map_some, *]; first | done | rfl | simp)
              have hRt : (((w6.alloc (.cells #[.int .i64 0] 3)).setCell ⟨w2.heap.size, 2, none⟩ (.slice (some ⟨w6.heap.size, 0, none⟩) 1 1)).setCell ⟨w6.heap.size, 0, none⟩ (.int .i64 13)).heap[w.heap.size]? = some (.cells #[.int .i64 0, .int .i64 0, .slice none 0 0] 43 (0, 0)) := by (simp only [heap_alloc_get, heap_setCell_get, heap_drew_get, heap_drewN_get, size_alloc', size_setCell', size_drew', size_drewN', nat_simp1, nat_simp2, nat_simp3, nat_simp4, nat_simp5, if_true, if_false, Option.map_some, *]; first | done | rfl | simp)
              have hBt : (((w6.alloc (.cells #[.int .i64 0] 3)).setCell ⟨w2.heap.size, 2, none⟩ (.slice (some ⟨w6.heap.size, 0, none⟩) 1 1)).setCell ⟨w6.heap.size, 0, none⟩ (.int .i64 13)).heap[w2.heap.size]? = some (.cells #[.int .i64 x1, .int .i64 (1 + x2), .slice (some ⟨w6.heap.size, 0, none⟩) 1 1] 43 (0, 0)) := by (simp only [heap_alloc_get, heap_setCell_get, heap_drew_get, heap_drewN_get, size_alloc', size_setCell', size_drew', size_drewN', nat_simp1, nat_simp2, nat_simp3, nat_simp4, nat_simp5, if_true, if_false, Option.map_some, *]; first | done | rfl | simp)
              obtain ⟨_, _⟩ := blk_facts hRt
              obtain ⟨_, _⟩ := blk_facts hBt
              obtain ⟨_, _⟩ := blk_facts hBal
              obtain ⟨_, _⟩ := blk_facts hBs
              obtain ⟨_, _⟩ := blk_facts hNs
              go_wp2_with fail
              (refine bodyPost_ret (results_cell_row rfl _ _ (w.heap.size) 43 #[.int .i64 x1, .int .i64 (1 + x2), .slice (some ⟨w6.heap.size, 0, none⟩) 1 1] (0, 0) _ rfl ?_ Try.underlying43 rfl (by kernel_rfl)) rfl ?_)
              · (simp only [heap_alloc_get, heap_setCell_get, heap_drew_get, heap_drewN_get, size_alloc', size_setCell', size_drew', size_drewN', nat_simp1, nat_simp2, nat_simp3, nat_simp4, nat_simp5, if_true, if_false, Option.map_some, *]; first | done | rfl | simp)
              · refine ⟨x1, 1 + x2, _, [13], rfl, ⟨rfl, .inr ⟨w6.heap.size, 1, #[.int .i64 13], rfl, by omega, ?_, by decide, by unfold maxLen; decide, rfl, rfl⟩⟩, by decide, hi1, hi2, fun a ha => list_I64 (by decide) ha, ?_, ?_⟩
                · (simp only [heap_alloc_get, heap_setCell_get, heap_drew_get, heap_drewN_get, size_alloc', size_setCell', size_drew', size_drewN', nat_simp1, nat_simp2, nat_simp3, nat_simp4, nat_simp5, if_true, if_false, Option.map_some, *]; first | done | rfl | simp)
                · refine Rdr.mono (m := m + 2) ?_ (by omega); (repeat' (first | (with_reducible assumption) | (with_reducible refine Rdr.alloc ?_ _) | (with_reducible refine Rdr.setCell ?_ ?_ _) | (with_reducible refine Rdr.drewN ?_ _) | (with_reducible refine Rdr.drew ?_) | (show _ < _; first | omega | (simp only [size_alloc', size_setCell', size_drew', size_drewN'] at *; omega))))
                · have := hG6.out; (repeat' (first | (with_reducible exact World.grownBy.refl _ _) | (with_reducible refine kp_setCell ?_ ?_ _) | (with_reducible refine kp_alloc ?_ _) | (with_reducible refine kp_drew ?_) | (with_reducible refine kp_drewN ?_ _) | (with_reducible refine kp_trans ?_ (by with_reducible assumption)) | (show _ ∨ _; first | (left; omega) | (right; omega) | (right; simp only [size_alloc', size_setCell', size_drew', size_drewN'] at *; omega)) | (with_reducible refine kp_below ?_ (by with_reducible assumption))))
            · have hx : 1 + x2 = 2 := by omega
              have hmk : ∀ W, (Instr.makeSlice 41 (.int .i64 (1 + x2)) (.int .i64 (1 + x2))).run Try.prog W = .ok (.slice (some ⟨W.heap.size, 0, none⟩) 2 2) (W.alloc (.cells #[.int .i64 0, .int .i64 0] 3)) := by
                intro W
                rw [hx]
                kernel_rfl
              have hne : (w2.heap.size = w6.heap.size) = False := eq_false (by omega)
              have hne' : (w6.heap.size = w2.heap.size) = False := eq_false (by omega)
              have hneR : (w.heap.size = w6.heap.size) = False := eq_false (by omega)
              have hneR' : (w6.heap.size = w.heap.size) = False := eq_false (by omega)
              have hneB : (w.heap.size = w2.heap.size) = False := eq_false (by omega)
              have hneB' : (w2.heap.size = w.heap.size) = False := eq_false (by omega)
              clear h2 hx
              have hB6 : w6.heap[w2.heap.size]? = some (.cells #[.int .i64 x1, .int .i64 (1 + x2), .slice A l.length c] 43 (0, 0)) := by assumption
              have hBal := below_heap (bel1 w6 (.cells #[.int .i64 0, .int .i64 0] 3)) hB6
              have hBs : ((w6.alloc (.cells #[.int .i64 0, .int .i64 0] 3)).setCell ⟨w2.heap.size, 2, none⟩ (.slice (some ⟨w6.heap.size, 0, none⟩) 2 2)).heap[w2.heap.size]? = some (.cells #[.int .i64 x1, .int .i64 (1 + x2), .slice (some ⟨w6.heap.size, 0, none⟩) 2 2] 43 (0, 0)) := by (simp only [heap_alloc_get, heap_setCell_get, heap_drew_get, heap_drewN_get, size_alloc', size_setCell', size_drew', size_drewN', nat_simp1, nat_simp2, nat_simp3, nat_simp4, nat_simp5, if_true, if_false, Option.map_some, *]; first | done | rfl | simp)
              have hNs : ((w6.alloc (.cells #[.int .i64 0, .int .i64 0] 3)).setCell ⟨w2.heap.size, 2, none⟩ (.slice (some ⟨w6.heap.size, 0, none⟩) 2 2)).heap[w6.heap.size]? = some (.cells #[.int .i64 0, .int .i64 0] 3 (0, 0)) := by (simp only [heap_alloc_get, heap_setCell_get, heap_drew_get, heap_drewN_get, size_alloc', size_setCell', size_drew', size_drewN', nat_simp1, nat_simp2, nat_simp3, nat_simp4, nat_simp5, if_true, if_false, Option.map_some, *]; first | done | rfl | simp)
              have hRt : (((w6.alloc (.cells #[.int .i64 0, .int .i64 0] 3)).setCell ⟨w2.heap.size, 2, none⟩ (.slice (some ⟨w6.heap.size, 0, none⟩) 2 2)).setCell ⟨w6.heap.size, 0, none⟩ (.int .i64 13)).heap[w.heap.size]? = some (.cells #[.int .i64 0, .int .i64 0, .slice none 0 0] 43 (0, 0)) := by (simp only [heap_alloc_get, heap_setCell_get, heap_drew_get, heap_drewN_get, size_alloc', size_setCell', size_drew', size_drewN', nat_simp1, nat_simp2, nat_simp3, nat_simp4, nat_simp5, if_true, if_false, Option.map_some, *]; first | done | rfl | simp)
              have hBt : (((w6.alloc (.cells #[.int .i64 0, .int .i64 0] 3)).setCell ⟨w2.heap.size, 2, none⟩ (.slice (some ⟨w6.heap.size, 0, none⟩) 2 2)).setCell ⟨w6.heap.size, 0, none⟩ (.int .i64 13)).heap[w2.heap.size]? = some (.cells #[.int .i64 x1, .int .i64 (1 + x2), .slice (some ⟨w6.heap.size, 0, none⟩) 2 2] 43 (0, 0)) := by (simp only [heap_alloc_get, heap_setCell_get, heap_drew_get, heap_drewN_get, size_alloc', size_setCell', size_drew', size_drewN', nat_simp1, nat_simp2, nat_simp3, nat_simp4, nat_simp5, if_true, if_false, Option.map_some, *]; first | done | rfl | simp)
              obtain ⟨_, _⟩ := blk_facts hRt
              obtain ⟨_, _⟩ := blk_facts hBt
              obtain ⟨_, _⟩ := blk_facts hBal
              obtain ⟨_, _⟩ := blk_facts hBs
              obtain ⟨_, _⟩ := blk_facts hNs
              go_wp2_with fail
              (refine bodyPost_ret (results_cell_row rfl _ _ (w.heap.size) 43 #[.int .i64 x1, .int .i64 (1 + x2), .slice (some ⟨w6.heap.size, 0, none⟩) 2 2] (0, 0) _ rfl ?_ Try.underlying43 rfl (by kernel_rfl)) rfl ?_)
              · (simp only [heap_alloc_get, heap_setCell_get, heap_drew_get, heap_drewN_get, size_alloc', size_setCell', size_drew', size_drewN', nat_simp1, nat_simp2, nat_simp3, nat_simp4, nat_simp5, if_true, if_false, Option.map_some, *]; first | done | rfl | simp)
              · refine ⟨x1, 1 + x2, _, [13, 0], rfl, ⟨rfl, .inr ⟨w6.heap.size, 2, #[.int .i64 13, .int .i64 0], rfl, by omega, ?_, by decide, by unfold maxLen; decide, rfl, rfl⟩⟩, by decide, hi1, hi2, fun a ha => list_I64 (by decide) ha, ?_, ?_⟩
                · (simp only [heap_alloc_get, heap_setCell_get, heap_drew_get, heap_drewN_get, size_alloc', size_setCell', size_drew', size_drewN', nat_simp1, nat_simp2, nat_simp3, nat_simp4, nat_simp5, if_true, if_false, Option.map_some, *]; first | done | rfl | simp)
                · refine Rdr.mono (m := m + 2) ?_ (by omega); (repeat' (first | (with_reducible assumption) | (with_reducible refine Rdr.alloc ?_ _) | (with_reducible refine Rdr.setCell ?_ ?_ _) | (with_reducible refine Rdr.drewN ?_ _) | (with_reducible refine Rdr.drew ?_) | (show _ < _; first | omega | (simp only [size_alloc', size_setCell', size_drew', size_drewN'] at *; omega))))
                · have := hG6.out; (repeat' (first | (with_reducible exact World.grownBy.refl _ _) | (with_reducible refine kp_setCell ?_ ?_ _) | (with_reducible refine kp_alloc ?_ _) | (with_reducible refine kp_drew ?_) | (with_reducible refine kp_drewN ?_ _) | (with_reducible refine kp_trans ?_ (by with_reducible assumption)) | (show _ ∨ _; first | (left; omega) | (right; omega) | (right; simp only [size_alloc', size_setCell', size_drew', size_drewN'] at *; omega)) | (with_reducible refine kp_below ?_ (by with_reducible assumption))))
            · have hx : 1 + x2 = 3 := by omega
              have hmk : ∀ W, (Instr.makeSlice 41 (.int .i64 (1 + x2)) (.int .i64 (1 + x2))).run Try.prog W = .ok (.slice (some ⟨W.heap.size, 0, none⟩) 3 3) (W.alloc (.cells #[.int .i64 0, .int .i64 0, .int .i64 0] 3)) := by
                intro W
                rw [hx]
                kernel_rfl
              have hne : (w2.heap.size = w6.heap.size) = False := eq_false (by omega)
              have hne' : (w6.heap.size = w2.heap.size) = False := eq_false (by omega)
              have hneR : (w.heap.size = w6.heap.size) = False := eq_false (by omega)
              have hneR' : (w6.heap.size = w.heap.size) = False := eq_false (by omega)
              have hneB : (w.heap.size = w2.heap.size) = False := eq_false (by omega)
              have hneB' : (w2.heap.size = w.heap.size) = False := eq_false (by omega)
              clear h2 hx
              have hB6 : w6.heap[w2.heap.size]? = some (.cells #[.int .i64 x1, .int .i64 (1 + x2), .slice A l.length c] 43 (0, 0)) := by assumption
              have hBal := below_heap (bel1 w6 (.cells #[.int .i64 0, .int .i64 0, .int .i64 0] 3)) hB6
              have hBs : ((w6.alloc (.cells #[.int .i64 0, .int .i64 0, .int .i64 0] 3)).setCell ⟨w2.heap.size, 2, none⟩ (.slice (some ⟨w6.heap.size, 0, none⟩) 3 3)).heap[w2.heap.size]? = some (.cells #[.int .i64 x1, .int .i64 (1 + x2), .slice (some ⟨w6.heap.size, 0, none⟩) 3 3] 43 (0, 0)) := by (simp only [heap_alloc_get, heap_setCell_get, heap_drew_get, heap_drewN_get, size_alloc', size_setCell', size_drew', size_drewN', nat_simp1, nat_simp2, nat_simp3, nat_simp4, nat_simp5, if_true, if_false, Option.map_some, *]; first | done | rfl | simp)
              have hNs : ((w6.alloc (.cells #[.int .i64 0, .int .i64 0, .int .i64 0] 3)).setCell ⟨w2.heap.size, 2, none⟩ (.slice (some ⟨w6.heap.size, 0, none⟩) 3 3)).heap[w6.heap.size]? = some (.cells #[.int .i64 0, .int .i64 0, .int .i64 0] 3 (0, 0)) := by (simp only [heap_alloc_get, heap_setCell_get, heap_drew_get, heap_drewN_get, size_alloc', size_setCell', size_drew', size_drewN', nat_simp1, nat_simp2, nat_simp3, nat_simp4, nat_simp5, if_true, if_false, Option.map_some, *]; first | done | rfl | simp)
              have hRt : (((w6.alloc (.cells #[.int .i64 0, .int .i64 0, .int .i64 0] 3)).setCell ⟨w2.heap.size, 2, none⟩ (.slice (some ⟨w6.heap.size, 0, none⟩) 3 3)).setCell ⟨w6.heap.size, 0, none⟩ (.int .i64 13)).heap[w.heap.size]? = some (.cells #[.int .i64 0, .int .i64 0, .slice none 0 0] 43 (0, 0)) := by (simp only [heap_alloc_get, heap_setCell_get, heap_drew_get, heap_drewN_get, size_alloc', size_setCell', size_drew', size_drewN', nat_simp1, nat_simp2, nat_simp3, nat_simp4, nat_simp5, if_true, if_false, Option.map_some, *]; first | done | rfl | simp)
              have hBt : (((w6.alloc (.cells #[.int .i64 0, .int .i64 0, .int .i64 0] 3)).setCell ⟨w2.heap.size, 2, none⟩ (.slice (some ⟨w6.heap.size, 0, none⟩) 3 3)).setCell ⟨w6.heap.size, 0, none⟩ (.int .i64 13)).heap[w2.heap.size]? = some (.cells #[.int .i64 x1, .int .i64 (1 + x2), .slice (some ⟨w6.heap.size, 0, none⟩) 3 3] 43 (0, 0)) := by (simp only [heap_alloc_get, heap_setCell_get, heap_drew_get, heap_drewN_get, size_alloc', size_setCell', size_drew', size_drewN', nat_simp1, nat_simp2, nat_simp3, nat_simp4, nat_simp5, if_true, if_false, Option.map_some, *]; first | done | rfl | simp)
              obtain ⟨_, _⟩ := blk_facts hRt
              obtain ⟨_, _⟩ := blk_facts hBt
              obtain ⟨_, _⟩ := blk_facts hBal
              obtain ⟨_, _⟩ := blk_facts hBs
              obtain ⟨_, _⟩ := blk_facts hNs
              go_wp2_with fail
              (refine bodyPost_ret (results_cell_row rfl _ _ (w.heap.size) 43 #[.int .i64 x1, .int .i64 (1 + x2), .slice (some ⟨w6.heap.size, 0, none⟩) 3 3] (0, 0) _ rfl ?_ Try.underlying43 rfl (by kernel_rfl)) rfl ?_)
              · (simp only [heap_alloc_get, heap_setCell_get, heap_drew_get, heap_drewN_get, size_alloc', size_setCell', size_drew', size_drewN', nat_simp1, nat_simp2, nat_simp3, nat_simp4, nat_simp5, if_true, if_false, Option.map_some, *]; first | done | rfl | simp)
              · refine ⟨x1, 1 + x2, _, [13, 0, 0], rfl, ⟨rfl, .inr ⟨w6.heap.size, 3, #[.int .i64 13, .int .i64 0, .int .i64 0], rfl, by omega, ?_, by decide, by unfold maxLen; decide, rfl, rfl⟩⟩, by decide, hi1, hi2, fun a ha => list_I64 (by decide) ha, ?_, ?_⟩
                · (simp only [heap_alloc_get, heap_setCell_get, heap_drew_get, heap_drewN_get, size_alloc', size_setCell', size_drew', size_drewN', nat_simp1, nat_simp2, nat_simp3, nat_simp4, nat_simp5, if_true, if_false, Option.map_some, *]; first | done | rfl | simp)
                · refine Rdr.mono (m := m + 2) ?_ (by omega); (repeat' (first | (with_reducible assumption) | (with_reducible refine Rdr.alloc ?_ _) | (with_reducible refine Rdr.setCell ?_ ?_ _) | (with_reducible refine Rdr.drewN ?_ _) | (with_reducible refine Rdr.drew ?_) | (show _ < _; first | omega | (simp only [size_alloc', size_setCell', size_drew', size_drewN'] at *; omega))))
                · have := hG6.out; (repeat' (first | (with_reducible exact World.grownBy.refl _ _) | (with_reducible refine kp_setCell ?_ ?_ _) | (with_reducible refine kp_alloc ?_ _) | (with_reducible refine kp_drew ?_) | (with_reducible refine kp_drewN ?_ _) | (with_reducible refine kp_trans ?_ (by with_reducible assumption)) | (show _ ∨ _; first | (left; omega) | (right; omega) | (right; simp only [size_alloc', size_setCell', size_drew', size_drewN'] at *; omega)) | (with_reducible refine kp_below ?_ (by with_reducible assumption))))
    · have hle : ¬ ((l.length : Int) < 1 + x2) := by rw [hLK.out]; exact hlt
      have hl8 : l.length ≤ 3 := by have := hLK.out; omega
      go_wp2_with fail
      obtain ⟨W, rfl⟩ : ∃ W : World, W = wr := ⟨_, rfl⟩
      have hgW := hG
      have hOW := Lib.hid hown
      have hrW : Rdr W g ((m + 3) + 1) := hrk.mono (by omega)
      clear hown
      (go_at_call 66; (with_reducible refine (c_odd g (m+3) _ _ ?_ hn hn').mono ?_); (focus (repeat' (first | (with_reducible assumption) | (with_reducible refine Rdr.alloc ?_ _) | (with_reducible refine Rdr.setCell ?_ ?_ _) | (with_reducible refine Rdr.drewN ?_ _) | (with_reducible refine Rdr.drew ?_) | (show _ < _; first | omega | (simp only [size_alloc', size_setCell', size_drew', size_drewN'] at *; omega))))); rintro e w5 ⟨b5, rfl, hrq, hgq⟩; have hsq := hgq.size; (try simp only [size_alloc', size_setCell', size_drew', size_drewN'] at hsq); (try (refine keep_heap_g (b := w.heap.size) hgq ?_ ?_ ?_; (first | omega | (simp only [size_alloc', size_setCell', size_drew', size_drewN']; omega)); omega; intro hkq; simp only [heap_alloc_get, heap_setCell_get, heap_drew_get, heap_drewN_get, size_alloc', size_setCell', size_drew', size_drewN', nat_simp1, nat_simp2, nat_simp3, nat_simp4, nat_simp5, if_true, if_false, Option.map_some, *] at hkq; obtain ⟨_, _⟩ := blk_facts hkq)); (try (refine keep_heap_g (b := w2.heap.size) hgq ?_ ?_ ?_; (first | omega | (simp only [size_alloc', size_setCell', size_drew', size_drewN']; omega)); omega; intro hkq; simp only [heap_alloc_get, heap_setCell_get, heap_drew_get, heap_drewN_get, size_alloc', size_setCell', size_drew', size_drewN', nat_simp1, nat_simp2, nat_simp3, nat_simp4, nat_simp5, if_true, if_false, Option.map_some, *] at hkq; obtain ⟨_, _⟩ := blk_facts hkq)); (try (refine ne_cps (a := w.heap.size) (b := w5.heap.size) ?_ ?_; omega; intro _ _)); (try (refine ne_cps (a := w.heap.size) (b := w5.heap.size + 1) ?_ ?_; omega; intro _ _)); (try (refine ne_cps (a := w.heap.size) (b := w5.heap.size + 1 + 1) ?_ ?_; omega; intro _ _)); (try (refine ne_cps (a := w2.heap.size) (b := w5.heap.size) ?_ ?_; omega; intro _ _)); (try (refine ne_cps (a := w2.heap.size) (b := w5.heap.size + 1) ?_ ?_; omega; intro _ _)); (try (refine ne_cps (a := w2.heap.size) (b := w5.heap.size + 1 + 1) ?_ ?_; omega; intro _ _)); skip)
      have hO5 := Lib.hid (own_pick hOW.out hgq (by omega))
      have hG5 := Lib.hid (kp_trans hgW.out hgq)
      cases b5
      · go_wp2_with fail
        (refine bodyPost_ret (results_cell_row rfl _ _ (w.heap.size) 43 #[.int .i64 x1, .int .i64 (1 + x2), .slice A l.length c] (0, 0) _ rfl ?_ Try.underlying43 rfl (by kernel_rfl)) rfl ?_)
        · (simp only [heap_alloc_get, heap_setCell_get, heap_drew_get, heap_drewN_get, size_alloc', size_setCell', size_drew', size_drewN', nat_simp1, nat_simp2, nat_simp3, nat_simp4, nat_simp5, if_true, if_false, Option.map_some, *]; first | done | rfl | simp)
        · exact ⟨x1, 1 + x2, _, l, rfl, by (refine own_mono (base := w2.heap.size + 1) ?_ (by omega); (repeat' (first | (with_reducible exact hO5.out) | (with_reducible refine ownsRow_setCell_below ?_ ?_ _) | (with_reducible refine World.ownsRow.alloc ?_ _) | (show _ < _; first | omega | (simp only [size_alloc', size_setCell', size_drew', size_drewN'] at *; omega))))), by omega, hi1, hi2, hL.out, by refine Rdr.mono (m := m + 3) ?_ (by omega); (repeat' (first | (with_reducible assumption) | (with_reducible refine Rdr.alloc ?_ _) | (with_reducible refine Rdr.setCell ?_ ?_ _) | (with_reducible refine Rdr.drewN ?_ _) | (with_reducible refine Rdr.drew ?_) | (show _ < _; first | omega | (simp only [size_alloc', size_setCell', size_drew', size_drewN'] at *; omega)))), by have := hG5.out; (repeat' (first | (with_reducible exact World.grownBy.refl _ _) | (with_reducible refine kp_setCell ?_ ?_ _) | (with_reducible refine kp_alloc ?_ _) | (with_reducible refine kp_drew ?_) | (with_reducible refine kp_drewN ?_ _) | (with_reducible refine kp_trans ?_ (by with_reducible assumption)) | (show _ ∨ _; first | (left; omega) | (right; omega) | (right; simp only [size_alloc', size_setCell', size_drew', size_drewN'] at *; omega)) | (with_reducible refine kp_below ?_ (by with_reducible assumption))))⟩
      · go_wp2_with fail
        (go_at_call 47; (with_reducible refine (c_pick g (m+2) _ _ ?_ (by omega) (by omega)).mono ?_); (focus (repeat' (first | (with_reducible assumption) | (with_reducible refine Rdr.alloc ?_ _) | (with_reducible refine Rdr.setCell ?_ ?_ _) | (with_reducible refine Rdr.drewN ?_ _) | (with_reducible refine Rdr.drew ?_) | (show _ < _; first | omega | (simp only [size_alloc', size_setCell', size_drew', size_drewN'] at *; omega))))); rintro e w6 ⟨x6, rfl, hx6, hy6, hz6, hrq, hgq⟩; have hsq := hgq.size; (try simp only [size_alloc', size_setCell', size_drew', size_drewN'] at hsq); (try (refine keep_heap_g (b := w.heap.size) hgq ?_ ?_ ?_; (first | omega | (simp only [size_alloc', size_setCell', size_drew', size_drewN']; omega)); omega; intro hkq; simp only [heap_alloc_get, heap_setCell_get, heap_drew_get, heap_drewN_get, size_alloc', size_setCell', size_drew', size_drewN', nat_simp1, nat_simp2, nat_simp3, nat_simp4, nat_simp5, if_true, if_false, Option.map_some, *] at hkq; obtain ⟨_, _⟩ := blk_facts hkq)); (try (refine keep_heap_g (b := w2.heap.size) hgq ?_ ?_ ?_; (first | omega | (simp only [size_alloc', size_setCell', size_drew', size_drewN']; omega)); omega; intro hkq; simp only [heap_alloc_get, heap_setCell_get, heap_drew_get, heap_drewN_get, size_alloc', size_setCell', size_drew', size_drewN', nat_simp1, nat_simp2, nat_simp3, nat_simp4, nat_simp5, if_true, if_false, Option.map_some, *] at hkq; obtain ⟨_, _⟩ := blk_facts hkq)); (try (refine ne_cps (a := w.heap.size) (b := w6.heap.size) ?_ ?_; omega; intro _ _)); (try (refine ne_cps (a := w.heap.size) (b := w6.heap.size + 1) ?_ ?_; omega; intro _ _)); (try (refine ne_cps (a := w.heap.size) (b := w6.heap.size + 1 + 1) ?_ ?_; omega; intro _ _)); (try (refine ne_cps (a := w2.heap.size) (b := w6.heap.size) ?_ ?_; omega; intro _ _)); (try (refine ne_cps (a := w2.heap.size) (b := w6.heap.size + 1) ?_ ?_; omega; intro _ _)); (try (refine ne_cps (a := w2.heap.size) (b := w6.heap.size + 1 + 1) ?_ ?_; omega; intro _ _)); skip)
        have hx6' := hy6 (by omega)
        clear hy6 hz6
        have hO6 := Lib.hid (own_pick hO5.out hgq (by omega))
        have hG6 := Lib.hid (kp_trans hG5.out hgq)
        have h06 : x6 = 0 ∨ x6 = 1 ∨ x6 = 2 ∨ x6 = 3 := by omega
        clear hx6 hx6'
        rcases h06 with rfl | rfl | rfl | rfl
        · go_wp2_with fail
          (go_at_call 47; (with_reducible refine (c_pick g (m+1) _ _ ?_ (by omega) (by omega)).mono ?_); (focus (repeat' (first | (with_reducible assumption) | (with_reducible refine Rdr.alloc ?_ _) | (with_reducible refine Rdr.setCell ?_ ?_ _) | (with_reducible refine Rdr.drewN ?_ _) | (with_reducible refine Rdr.drew ?_) | (show _ < _; first | omega | (simp only [size_alloc', size_setCell', size_drew', size_drewN'] at *; omega))))); rintro e w7 ⟨x7, rfl, hx7, hy7, hz7, hrq, hgq⟩; have hsq := hgq.size; (try simp only [size_alloc', size_setCell', size_drew', size_drewN'] at hsq); (try (refine keep_heap_g (b := w.heap.size) hgq ?_ ?_ ?_; (first | omega | (simp only [size_alloc', size_setCell', size_drew', size_drewN']; omega)); omega; intro hkq; simp only [heap_alloc_get, heap_setCell_get, heap_drew_get, heap_drewN_get, size_alloc', size_setCell', size_drew', size_drewN', nat_simp1, nat_simp2, nat_simp3, nat_simp4, nat_simp5, if_true, if_false, Option.map_some, *] at hkq; obtain ⟨_, _⟩ := blk_facts hkq)); (try (refine keep_heap_g (b := w2.heap.size) hgq ?_ ?_ ?_; (first | omega | (simp only [size_alloc', size_setCell', size_drew', size_drewN']; omega)); omega; intro hkq; simp only [heap_alloc_get, heap_setCell_get, heap_drew_get, heap_drewN_get, size_alloc', size_setCell', size_drew', size_drewN', nat_simp1, nat_simp2, nat_simp3, nat_simp4, nat_simp5, if_true, if_false, Option.map_some, *] at hkq; obtain ⟨_, _⟩ := blk_facts hkq)); (try (refine keep_heap_g (b := w6.heap.size) hgq ?_ ?_ ?_; (first | omega | (simp only [size_alloc', size_setCell', size_drew', size_drewN']; omega)); omega; intro hkq; simp only [heap_alloc_get, heap_setCell_get, heap_drew_get, heap_drewN_get, size_alloc', size_setCell', size_drew', size_drewN', nat_simp1, nat_simp2, nat_simp3, nat_simp4, nat_simp5, if_true, if_false, Option.map_some, *] at hkq)); (try (refine ne_cps (a := w.heap.size) (b := w7.heap.size) ?_ ?_; omega; intro _ _)); (try (refine ne_cps (a := w.heap.size) (b := w7.heap.size + 1) ?_ ?_; omega; intro _ _)); (try (refine ne_cps (a := w.heap.size) (b := w7.heap.size + 1 + 1) ?_ ?_; omega; intro _ _)); (try (refine ne_cps (a := w2.heap.size) (b := w7.heap.size) ?_ ?_; omega; intro _ _)); (try (refine ne_cps (a := w2.heap.size) (b := w7.heap.size + 1) ?_ ?_; omega; intro _ _)); (try (refine ne_cps (a := w2.heap.size) (b := w7.heap.size + 1 + 1) ?_ ?_; omega; intro _ _)); (try (refine ne_cps (a := w6.heap.size) (b := w7.heap.size) ?_ ?_; omega; intro _ _)); (try (refine ne_cps (a := w6.heap.size) (b := w7.heap.size + 1) ?_ ?_; omega; intro _ _)); (try (refine ne_cps (a := w6.heap.size) (b := w7.heap.size + 1 + 1) ?_ ?_; omega; intro _ _)); skip)
          have hx7' := hy7 (by omega)
          obtain ⟨y7, hc7, hm7⟩ := at_list [-1, 13] (W := w7) (b := w6.heap.size) (by assumption) x7 hx7 (by simpa using hx7')
          have hi7 := list_I64 (by decide) hm7
          have hO7 := Lib.hid (own_pick (hO6.out.alloc _) hgq (by omega))
          have hG7 := Lib.hid (kp_trans (kp_alloc hG6.out _) hgq)
          go_wp2_with fail
          (refine bodyPost_ret (results_cell_row rfl _ _ (w.heap.size) 43 #[.int .i64 y7, .int .i64 (1 + x2), .slice A l.length c] (0, 0) _ rfl ?_ Try.underlying43 rfl (by kernel_rfl)) rfl ?_)
          · (simp only [heap_alloc_get, heap_setCell_get, heap_drew_get, heap_drewN_get, size_alloc', size_setCell', size_drew', size_drewN', nat_simp1, nat_simp2, nat_simp3, nat_simp4, nat_simp5, if_true, if_false, Option.map_some, *]; first | done | rfl | simp)
          · exact ⟨y7, 1 + x2, _, l, rfl, by (refine own_mono (base := w2.heap.size + 1) ?_ (by omega); (repeat' (first | (with_reducible exact hO7.out) | (with_reducible refine ownsRow_setCell_below ?_ ?_ _) | (with_reducible refine World.ownsRow.alloc ?_ _) | (show _ < _; first | omega | (simp only [size_alloc', size_setCell', size_drew', size_drewN'] at *; omega))))), by omega, hi7, hi2, hL.out, by refine Rdr.mono (m := m + 1) ?_ (by omega); (repeat' (first | (with_reducible assumption) | (with_reducible refine Rdr.alloc ?_ _) | (with_reducible refine Rdr.setCell ?_ ?_ _) | (with_reducible refine Rdr.drewN ?_ _) | (with_reducible refine Rdr.drew ?_) | (show _ < _; first | omega | (simp only [size_alloc', size_setCell', size_drew', size_drewN'] at *; omega)))), by have := hG7.out; (repeat' (first | (with_reducible exact World.grownBy.refl _ _) | (with_reducible refine kp_setCell ?_ ?_ _) | (with_reducible refine kp_alloc ?_ _) | (with_reducible refine kp_drew ?_) | (with_reducible refine kp_drewN ?_ _) | (with_reducible refine kp_trans ?_ (by with_reducible assumption)) | (show _ ∨ _; first | (left; omega) | (right; omega) | (right; simp only [size_alloc', size_setCell', size_drew', size_drewN'] at *; omega)) | (with_reducible refine kp_below ?_ (by with_reducible assumption))))⟩
        · go_wp2_with fail
          (go_at_call 47; (with_reducible refine (c_pick g (m+1) _ _ ?_ (by omega) (by omega)).mono ?_); (focus (repeat' (first | (with_reducible assumption) | (with_reducible refine Rdr.alloc ?_ _) | (with_reducible refine Rdr.setCell ?_ ?_ _) | (with_reducible refine Rdr.drewN ?_ _) | (with_reducible refine Rdr.drew ?_) | (show _ < _; first | omega | (simp only [size_alloc', size_setCell', size_drew', size_drewN'] at *; omega))))); rintro e w7 ⟨x7, rfl, hx7, hy7, hz7, hrq, hgq⟩; have hsq := hgq.size; (try simp only [size_alloc', size_setCell', size_drew', size_drewN'] at hsq); (try (refine keep_heap_g (b := w.heap.size) hgq ?_ ?_ ?_; (first | omega | (simp only [size_alloc', size_setCell', size_drew', size_drewN']; omega)); omega; intro hkq; simp only [heap_alloc_get, heap_setCell_get, heap_drew_get, heap_drewN_get, size_alloc', size_setCell', size_drew', size_drewN', nat_simp1, nat_simp2, nat_simp3, nat_simp4, nat_simp5, if_true, if_false, Option.map_some, *] at hkq; obtain ⟨_, _⟩ := blk_facts hkq)); (try (refine keep_heap_g (b := w2.heap.size) hgq ?_ ?_ ?_; (first | omega | (simp only [size_alloc', size_setCell', size_drew', size_drewN']; omega)); omega; intro hkq; simp only [heap_alloc_get, heap_setCell_get, heap_drew_get, heap_drewN_get, size_alloc', size_setCell', size_drew', size_drewN', nat_simp1, nat_simp2, nat_simp3, nat_simp4, nat_simp5, if_true, if_false, Option.map_some, *] at hkq; obtain ⟨_, _⟩ := blk_facts hkq)); (try (refine keep_heap_g (b := w6.heap.size) hgq ?_ ?_ ?_; (first | omega | (simp only [size_alloc', size_setCell', size_drew', size_drewN']; omega)); omega; intro hkq; simp only [heap_alloc_get, heap_setCell_get, heap_drew_get, heap_drewN_get, size_alloc', size_setCell', size_drew', size_drewN', nat_simp1, nat_simp2, nat_simp3, nat_simp4, nat_simp5, if_true, if_false, Option.map_some, *] at hkq)); (try (refine ne_cps (a := w.heap.size) (b := w7.heap.size) ?_ ?_; omega; intro _ _)); (try (refine ne_cps (a := w.heap.size) (b := w7.heap.size + 1) ?_ ?_; omega; intro _ _)); (try (refine ne_cps (a := w.heap.size) (b := w7.heap.size + 1 + 1) ?_ ?_; omega; intro _ _)); (try (refine ne_cps (a := w2.heap.size) (b := w7.heap.size) ?_ ?_; omega; intro _ _)); (try (refine ne_cps (a := w2.heap.size) (b := w7.heap.size + 1) ?_ ?_; omega; intro _ _)); (try (refine ne_cps (a := w2.heap.size) (b := w7.heap.size + 1 + 1) ?_ ?_; omega; intro _ _)); (try (refine ne_cps (a := w6.heap.size) (b := w7.heap.size) ?_ ?_; omega; intro _ _)); (try (refine ne_cps (a := w6.heap.size) (b := w7.heap.size + 1) ?_ ?_; omega; intro _ _)); (try (refine ne_cps (a := w6.heap.size) (b := w7.heap.size + 1 + 1) ?_ ?_; omega; intro _ _)); skip)
          have hx7' := hy7 (by omega)
          obtain ⟨y7, hc7, hm7⟩ := at_list [0, 5] (W := w7) (b := w6.heap.size) (by assumption) x7 hx7 (by simpa using hx7')
          have hi7 := list_I64 (by decide) hm7
          have hO7 := Lib.hid (own_pick (hO6.out.alloc _) hgq (by omega))
          have hG7 := Lib.hid (kp_trans (kp_alloc hG6.out _) hgq)
          go_wp2_with fail
          (refine bodyPost_ret (results_cell_row rfl _ _ (w.heap.size) 43 #[.int .i64 x1, .int .i64 y7, .slice A l.length c] (0, 0) _ rfl ?_ Try.underlying43 rfl (by kernel_rfl)) rfl ?_)
          · (simp only [heap_alloc_get, heap_setCell_get, heap_drew_get, heap_drewN_get, size_alloc', size_setCell', size_drew', size_drewN', nat_simp1, nat_simp2, nat_simp3, nat_simp4, nat_simp5, if_true, if_false, Option.map_some, *]; first | done | rfl | simp)
          · exact ⟨x1, y7, _, l, rfl, by (refine own_mono (base := w2.heap.size + 1) ?_ (by omega); (repeat' (first | (with_reducible exact hO7.out) | (with_reducible refine ownsRow_setCell_below ?_ ?_ _) | (with_reducible refine World.ownsRow.alloc ?_ _) | (show _ < _; first | omega | (simp only [size_alloc', size_setCell', size_drew', size_drewN'] at *; omega))))), by omega, hi1, hi7, hL.out, by refine Rdr.mono (m := m + 1) ?_ (by omega); (repeat' (first | (with_reducible assumption) | (with_reducible refine Rdr.alloc ?_ _) | (with_reducible refine Rdr.setCell ?_ ?_ _) | (with_reducible refine Rdr.drewN ?_ _) | (with_reducible refine Rdr.drew ?_) | (show _ < _; first | omega | (simp only [size_alloc', size_setCell', size_drew', size_drewN'] at *; omega)))), by have := hG7.out; (repeat' (first | (with_reducible exact World.grownBy.refl _ _) | (with_reducible refine kp_setCell ?_ ?_ _) | (with_reducible refine kp_alloc ?_ _) | (with_reducible refine kp_drew ?_) | (with_reducible refine kp_drewN ?_ _) | (with_reducible refine kp_trans ?_ (by with_reducible assumption)) | (show _ ∨ _; first | (left; omega) | (right; omega) | (right; simp only [size_alloc', size_setCell', size_drew', size_drewN'] at *; omega)) | (with_reducible refine kp_below ?_ (by with_reducible assumption))))⟩
        · have hRd := hrq.alloc (.cells #[.int .i64 1, .int .i64 1] 3 (0, 0))
          have hBa : (w6.alloc (.cells #[.int .i64 1, .int .i64 1] 3 (0, 0))).heap[w2.heap.size]? = some (.cells #[.int .i64 x1, .int .i64 (1 + x2), .slice A l.length c] 43 (0, 0)) := by (simp only [heap_alloc_get, heap_setCell_get, heap_drew_get, heap_drewN_get, size_alloc', size_setCell', size_drew', size_drewN', nat_simp1, nat_simp2, nat_simp3, nat_simp4, nat_simp5, if_true, if_false, Option.map_some, *]; first | done | rfl | simp)
          have hRa : (w6.alloc (.cells #[.int .i64 1, .int .i64 1] 3 (0, 0))).heap[w.heap.size]? = some (.cells #[.int .i64 0, .int .i64 0, .slice none 0 0] 43 (0, 0)) := by (simp only [heap_alloc_get, heap_setCell_get, heap_drew_get, heap_drewN_get, size_alloc', size_setCell', size_drew', size_drewN', nat_simp1, nat_simp2, nat_simp3, nat_simp4, nat_simp5, if_true, if_false, Option.map_some, *]; first | done | rfl | simp)
          have hOa := Lib.hid (hO6.out.alloc (.cells #[.int .i64 1, .int .i64 1] 3 (0, 0)))
          have hGa := Lib.hid (kp_alloc hG6.out (.cells #[.int .i64 1, .int .i64 1] 3 (0, 0)))
          have HBa := Lib.hid hBa
          have HRa := Lib.hid hRa
          clear hBa hRa
          go_wp2_with (at_builtin; refine wp_ints rfl (.tmp 69) (.tmp 70) rfl (w2.heap.size + 1) _ l rfl hOa.out w6.heap.size [1, 1] 2 rfl (by omega) rfl 3 (heap_alloc_new _ _) (by omega) ?c2 ?_)
          case c2 => simp; omega
          intro g7 cap7 w7 hown7 hgr7 hlt7
          have hRW7 := heap_app hOa.out hgr7 HRa.out (by omega)
          have hBW7 := heap_app hOa.out hgr7 HBa.out (by omega)
          have R7 := rdr_append hRd hOa.out hgr7 (by omega)
          have K7 := kp_append hGa.out hOa.out hgr7 (by omega)
          have HO7 := Lib.hid hown7
          have hz7 := hgr7.size
          simp only [size_alloc'] at hz7
          clear hown7 hgr7
          obtain ⟨_, _⟩ := blk_facts hRW7
          obtain ⟨_, _⟩ := blk_facts hBW7
          go_wp2_with fail
          (refine bodyPost_ret (results_cell_row rfl _ _ (w.heap.size) 43 #[.int .i64 x1, .int .i64 (1 + x2), .slice (some ⟨g7, 0, none⟩) (l.length + 2) cap7] (0, 0) _ rfl ?_ Try.underlying43 rfl (by kernel_rfl)) rfl ?_)
          · (simp only [heap_alloc_get, heap_setCell_get, heap_drew_get, heap_drewN_get, size_alloc', size_setCell', size_drew', size_drewN', nat_simp1, nat_simp2, nat_simp3, nat_simp4, nat_simp5, if_true, if_false, Option.map_some, *]; first | done | rfl | simp)
          · exact ⟨x1, 1 + x2, _, l ++ [1, 1], rfl, by (refine own_mono (base := w2.heap.size + 1) ?_ (by omega); (repeat' (first | (with_reducible exact (own_len HO7.out (by simp))) | (with_reducible refine ownsRow_setCell_below ?_ ?_ _) | (with_reducible refine World.ownsRow.alloc ?_ _) | (show _ < _; first | omega | (simp only [size_alloc', size_setCell', size_drew', size_drewN'] at *; omega))))), by simp; omega, hi1, hi2, all_snoc2 hL.out, by refine Rdr.mono (m := m + 2) ?_ (by omega); (repeat' (first | (with_reducible assumption) | (with_reducible refine Rdr.alloc ?_ _) | (with_reducible refine Rdr.setCell ?_ ?_ _) | (with_reducible refine Rdr.drewN ?_ _) | (with_reducible refine Rdr.drew ?_) | (show _ < _; first | omega | (simp only [size_alloc', size_setCell', size_drew', size_drewN'] at *; omega)))), by (repeat' (first | (with_reducible exact World.grownBy.refl _ _) | (with_reducible refine kp_setCell ?_ ?_ _) | (with_reducible refine kp_alloc ?_ _) | (with_reducible refine kp_drew ?_) | (with_reducible refine kp_drewN ?_ _) | (with_reducible refine kp_trans ?_ (by with_reducible assumption)) | (show _ ∨ _; first | (left; omega) | (right; omega) | (right; simp only [size_alloc', size_setCell', size_drew', size_drewN'] at *; omega)) | (with_reducible refine kp_below ?_ (by with_reducible assumption))))⟩
        · have h2 : x2 = 0 ∨ x2 = 1 ∨ x2 = 2 := by omega
          rcases h2 with h2 | h2 | h2
          · have hx : 1 + x2 = 1 := by omega
            have hmk : ∀ W, (Instr.makeSlice 41 (.int .i64 (1 + x2)) (.int .i64 (1 + x2))).run Try.prog W = .ok (.slice (some ⟨W.heap.size, 0, none⟩) 1 1) (W.alloc (.cells #[.int .i64 0] 3)) := by
              intro W
              rw [hx]
              kernel_rfl
            have hne : (w2.heap.size = w6.heap.size) = False := eq_false (by omega)
            have hne' : (w6.heap.size = w2.heap.size) = False := eq_false (by omega)
            have hneR : (w.heap.size = w6.heap.size) = False := eq_false (by omega)
            have hneR' : (w6.heap.size = w.heap.size) = False := eq_false (by omega)
            have hneB : (w.heap.size = w2.heap.size) = False := eq_false (by omega)
            have hneB' : (w2.heap.size = w.heap.size) = False := eq_false (by omega)
            clear h2 hx
            have hB6 : w6.heap[w2.heap.size]? = some (.cells #[.int .i64 x1, .int .i64 (1 + x2), .slice A l.length c] 43 (0, 0)) := by assumption
            have hBal := below_heap (bel1 w6 (.cells #[.int .i64 0] 3)) hB6
            have hBs : ((w6.alloc (.cells #[.int .i64 0] 3)).setCell ⟨w2.heap.size, 2, none⟩ (.slice (some ⟨w6.heap.size, 0, none⟩) 1 1)).heap[w2.heap.size]? = some (.cells #[.int .i64 x1, .int .i64 (1 + x2), .slice (some ⟨w6.heap.size, 0, none⟩) 1 1] 43 (0, 0)) := by (simp only [heap_alloc_get, heap_setCell_get, heap_drew_get, heap_drewN_get, size_alloc', size_setCell', size_drew', size_drewN', nat_simp1, nat_simp2, nat_simp3, nat_simp4, nat_simp5, if_true, if_false, Option.map_some, *]; first | done | rfl | simp)
            have hNs : ((w6.alloc (.cells #[.int .i64 0] 3)).setCell ⟨w2.heap.size, 2, none⟩ (.slice (some ⟨w6.heap.size, 0, none⟩) 1 1)).heap[w6.heap.size]? = some (.cells #[.int .i64 0] 3 (0, 0)) := by (simp only [heap_alloc_get, heap_setCell_get, heap_drew_get, heap_drewN_get, size_alloc', size_setCell', size_drew', size_drewN', nat_simp1, nat_simp2, nat_simp3, nat_simp4, nat_simp5, if_true, if_false, Option.map_some, *]; first | done | rfl | simp)
            have hRt : (((w6.alloc (.cells #[.int .i64 0] 3)).setCell ⟨w2.heap.size, 2, none⟩ (.slice (some ⟨w6.heap.size, 0, none⟩) 1 1)).setCell ⟨w6.heap.size, 0, none⟩ (.int .i64 13)).heap[w.heap.size]? = some (.cells #[.int .i64 0, .int .i64 0, .slice none 0 0] 43 (0, 0)) := by (simp only [heap_alloc_get, heap_setCell_get, heap_drew_get, heap_drewN_get, size_alloc', size_setCell', size_drew', size_drewN', nat_simp1, nat_simp2, nat_simp3, nat_simp4, nat_simp5, if_true, if_false, Option.map_some, *]; first | done | rfl | simp)
            have hBt : (((w6.alloc (.cells #[.int .i64 0] 3)).setCell ⟨w2.heap.size, 2, none⟩ (.slice (some ⟨w6.heap.size, 0, none⟩) 1 1)).setCell ⟨w6.heap.size, 0, none⟩ (.int .i64 13)).heap[w2.heap.size]? = some (.cells #[.int .i64 x1, .int .i64 (1 + x2), .slice (some ⟨w6.heap.size, 0, none⟩) 1 1] 43 (0, 0)) := by (simp only [heap_alloc_get, heap_setCell_get, heap_drew_get, heap_drewN_get, size_alloc', size_setCell', size_drew', size_drewN', nat_simp1, nat_simp2, nat_simp3, nat_simp4, nat_simp5, if_true, if_false, Option.map_some, *]; first | done | rfl | simp)
            obtain ⟨_, _⟩ := blk_facts hRt
            obtain ⟨_, _⟩ := blk_facts hBt
            obtain ⟨_, _⟩ := blk_facts hBal
            obtain ⟨_, _⟩ := blk_facts hBs
            obtain ⟨_, _⟩ := blk_facts hNs
            go_wp2_with fail
            (refine bodyPost_ret (results_cell_row rfl _ _ (w.heap.size) 43 #[.int .i64 x1, .int .i64 (1 + x2), .slice (some ⟨w6.heap.size, 0, none⟩) 1 1] (0, 0) _ rfl ?_ Try.underlying43 rfl (by kernel_rfl)) rfl ?_)
            · (simp only [heap_alloc_get, heap_setCell_get, heap_drew_get, heap_drewN_get, size_alloc', size_setCell', size_drew', size_drewN', nat_simp1, nat_simp2, nat_simp3, nat_simp4, nat_simp5, if_true, if_false, Option.map_some, *]; first | done | rfl | simp)
            · refine ⟨x1, 1 + x2, _, [13], rfl, ⟨rfl, .inr ⟨w6.heap.size, 1, #[.int .i64 13], rfl, by omega, ?_, by decide, by unfold maxLen; decide, rfl, rfl⟩⟩, by decide, hi1, hi2, fun a ha => list_I64 (by decide) ha, ?_, ?_⟩
              · (simp only [heap_alloc_get, heap_setCell_get, heap_drew_get, heap_drewN_get, size_alloc', size_setCell', size_drew', size_drewN', nat_simp1, nat_simp2, nat_simp3, nat_simp4, nat_simp5, if_true, if_false, Option.map_some, *]; first | done | rfl | simp)
              · refine Rdr.mono (m := m + 2) ?_ (by omega); (repeat' (first | (with_reducible assumption) | (with_reducible refine Rdr.alloc ?_ _) | (with_reducible refine Rdr.setCell ?_ ?_ _) | (with_reducible refine Rdr.drewN ?_ _) | (with_reducible refine Rdr.drew ?_) | (show _ < _; first | omega | (simp only [size_alloc', size_setCell', size_drew', size_drewN'] at *; omega))))
              · have := hG6.out; (repeat' (first | (with_reducible exact World.grownBy.refl _ _) | (with_reducible refine kp_setCell ?_ ?_ _) | (with_reducible refine kp_alloc ?_ _) | (with_reducible refine kp_drew ?_) | (with_reducible refine kp_drewN ?_ _) | (with_reducible refine kp_trans ?_ (by with_reducible assumption)) | (show _ ∨ _; first | (left; omega) | (right; omega) | (right; simp only [size_alloc', size_setCell', size_drew', size_drewN'] at *; omega)) | (with_reducible refine kp_below ?_ (by with_reducible assumption))))
          · have hx : 1 + x2 = 2 := by omega
            have hmk : ∀ W, (Instr.makeSlice 41 (.int .i64 (1 + x2)) (.int .i64 (1 + x2))).run Try.prog W = .ok (.slice (some ⟨W.heap.size, 0, none⟩) 2 2) (W.alloc (.cells #[.int .i64 0, .int .i64 0] 3)) := by
              intro W
              rw [hx]
              kernel_rfl
            have hne : (w2.heap.size = w6.heap.size) = False := eq_false (by omega)
            have hne' : (w6.heap.size = w2.heap.size) = False := eq_false (by omega)
            have hneR : (w.heap.size = w6.heap.size) = False := eq_false (by omega)
            have hneR' : (w6.heap.size = w.heap.size) = False := eq_false (by omega)
            have hneB : (w.heap.size = w2.heap.size) = False := eq_false (by omega)
            have hneB' : (w2.heap.size = w.heap.size) = False := eq_false (by omega)
            clear h2 hx
            have hB6 : w6.heap[w2.heap.size]? = some (.cells #[.int .i64 x1, .int .i64 (1 + x2), .slice A l.length c] 43 (0, 0)) := by assumption
            have hBal := below_heap (bel1 w6 (.cells #[.int .i64 0, .int .i64 0] 3)) hB6
            have hBs : ((w6.alloc (.cells #[.int .i64 0, .int .i64 0] 3)).setCell ⟨w2.heap.size, 2, none⟩ (.slice (some ⟨w6.heap.size, 0, none⟩) 2 2)).heap[w2.heap.size]? = some (.cells #[.int .i64 x1, .int .i64 (1 + x2), .slice (some ⟨w6.heap.size, 0, none⟩) 2 2] 43 (0, 0)) := by (simp only [heap_alloc_get, heap_setCell_get, heap_drew_get, heap_drewN_get, size_alloc', size_setCell', size_drew', size_drewN', nat_simp1, nat_simp2, nat_simp3, nat_simp4, nat_simp5, if_true, if_false, Option.map_some, *]; first | done | rfl | simp)
            have hNs : ((w6.alloc (.cells #[.int .i64 0, .int .i64 0] 3)).setCell ⟨w2.heap.size, 2, none⟩ (.slice (some ⟨w6.heap.size, 0, none⟩) 2 2)).heap[w6.heap.size]? = some (.cells #[.int .i64 0, .int .i64 0] 3 (0, 0)) := by (simp only [heap_alloc_get, heap_setCell_get, heap_drew_get, heap_drewN_get, size_alloc', size_setCell', size_drew', size_drewN', nat_simp1, nat_simp2, nat_simp3, nat_simp4, nat_simp5, if_true, if_false, Option.map_some, *]; first | done | rfl | simp)
            have hRt : (((w6.alloc (.cells #[.int .i64 0, .int .i64 0] 3)).setCell ⟨w2.heap.size, 2, none⟩ (.slice (some ⟨w6.heap.size, 0, none⟩) 2 2)).setCell ⟨w6.heap.size, 0, none⟩ (.int .i64 13)).heap[w.heap.size]? = some (.cells #[.int .i64 0, .int .i64 0, .slice none 0 0] 43 (0, 0)) := by (simp only [heap_alloc_get, heap_setCell_get, heap_drew_get, heap_drewN_get, size_alloc', size_setCell', size_drew', size_drewN', nat_simp1, nat_simp2, nat_simp3, nat_simp4, nat_simp5, if_true, if_false, Option.map_some, *]; first | done | rfl | simp)
            have hBt : (((w6.alloc (.cells #[.int .i64 0, .int .i64 0] 3)).setCell ⟨w2.heap.size, 2, none⟩ (.slice (some ⟨w6.heap.size, 0, none⟩) 2 2)).setCell ⟨w6.heap.size, 0, none⟩ (.int .i64 13)).heap[w2.heap.size]? = some (.cells #[.int .i64 x1, .int .i64 (1 + x2), .slice (some ⟨w6.heap.size, 0, none⟩) 2 2] 43 (0, 0)) := by (simp only [heap_alloc_get, heap_setCell_get, heap_drew_get, heap_drewN_get, size_alloc', size_setCell', size_drew', size_drewN', nat_simp1, nat_simp2, nat_simp3, nat_simp4, nat_simp5, if_true, if_false, Option.map_some, *]; first | done | rfl | simp)
            obtain ⟨_, _⟩ := blk_facts hRt
            obtain ⟨_, _⟩ := blk_facts hBt
            obtain ⟨_, _⟩ := blk_facts hBal
            obtain ⟨_, _⟩ := blk_facts hBs
            obtain ⟨_, _⟩ := blk_facts hNs
            go_wp2_with fail
            (refine bodyPost_ret (results_cell_row rfl _ _ (w.heap.size) 43 #[.int .i64 x1, .int .i64 (1 + x2), .slice (some ⟨w6.heap.size, 0, none⟩) 2 2] (0, 0) _ rfl ?_ Try.underlying43 rfl (by kernel_rfl)) rfl ?_)
            · (simp only [heap_alloc_get, heap_setCell_get, heap_drew_get, heap_drewN_get, size_alloc', size_setCell', size_drew', size_drewN', nat_simp1, nat_simp2, nat_simp3, nat_simp4, nat_simp5, if_true, if_false, Option.map_some, *]; first | done | rfl | simp)
            · refine ⟨x1, 1 + x2, _, [13, 0], rfl, ⟨rfl, .inr ⟨w6.heap.size, 2, #[.int .i64 13, .int .i64 0], rfl, by omega, ?_, by decide, by unfold maxLen; decide, rfl, rfl⟩⟩, by decide, hi1, hi2, fun a ha => list_I64 (by decide) ha, ?_, ?_⟩
              · (simp only [heap_alloc_get, heap_setCell_get, heap_drew_get, heap_drewN_get, size_alloc', size_setCell', size_drew', size_drewN', nat_simp1, nat_simp2, nat_simp3, nat_simp4, nat_simp5, if_true, if_false, Option.map_some, *]; first | done | rfl | simp)
              · refine Rdr.mono (m := m + 2) ?_ (by omega); (repeat' (first | (with_reducible assumption) | (with_reducible refine Rdr.alloc ?_ _) | (with_reducible refine Rdr.setCell ?_ ?_ _) | (with_reducible refine Rdr.drewN ?_ _) | (with_reducible refine Rdr.drew ?_) | (show _ < _; first | omega | (simp only [size_alloc', size_setCell', size_drew', size_drewN'] at *; omega))))
              · have := hG6.out; (repeat' (first | (with_reducible exact World.grownBy.refl _ _) | (with_reducible refine kp_setCell ?_ ?_ _) | (with_reducible refine kp_alloc ?_ _) | (with_reducible refine kp_drew ?_) | (with_reducible refine kp_drewN ?_ _) | (with_reducible refine kp_trans ?_ (by with_reducible assumption)) | (show _ ∨ _; first | (left; omega) | (right; omega) | (right; simp only [size_alloc', size_setCell', size_drew', size_drewN'] at *; omega)) | (with_reducible refine kp_below ?_ (by with_reducible assumption))))
          · have hx : 1 + x2 = 3 := by omega
            have hmk : ∀ W, (Instr.makeSlice 41 (.int .i64 (1 + x2)) (.int .i64 (1 + x2))).run Try.prog W = .ok (.slice (some ⟨W.heap.size, 0, none⟩) 3 3) (W.alloc (.cells #[.int .i64 0, .int .i64 0, .int .i64 0] 3)) := by
              intro W
              rw [hx]
              kernel_rfl
            have hne : (w2.heap.size = w6.heap.size) = False := eq_false (by omega)
            have hne' : (w6.heap.size = w2.heap.size) = False := eq_false (by omega)
            have hneR : (w.heap.size = w6.heap.size) = False := eq_false (by omega)
            have hneR' : (w6.heap.size = w.heap.size) = False := eq_false (by omega)
            have hneB : (w.heap.size = w2.heap.size) = False := eq_false (by omega)
            have hneB' : (w2.heap.size = w.heap.size) = False := eq_false (by omega)
            clear h2 hx
            have hB6 : w6.heap[w2.heap.size]? = some (.cells #[.int .i64 x1, .int .i64 (1 + x2), .slice A l.length c] 43 (0, 0)) := by assumption
            have hBal := below_heap (bel1 w6 (.cells #[.int .i64 0, .int .i64 0, .int .i64 0] 3)) hB6
            have hBs : ((w6.alloc (.cells #[.int .i64 0, .int .i64 0, .int .i64 0] 3)).setCell ⟨w2.heap.size, 2, none⟩ (.slice (some ⟨w6.heap.size, 0, none⟩) 3 3)).heap[w2.heap.size]? = some (.cells #[.int .i64 x1, .int .i64 (1 + x2), .slice (some ⟨w6.heap.size, 0, none⟩) 3 3] 43 (0, 0)) := by (simp only [heap_alloc_get, heap_setCell_get, heap_drew_get, heap_drewN_get, size_alloc', size_setCell', size_drew', size_drewN', nat_simp1, nat_simp2, nat_simp3, nat_simp4, nat_simp5, if_true, if_false, Option.map_some, *]; first | done | rfl | simp)
            have hNs : ((w6.alloc (.cells #[.int .i64 0, .int .i64 0, .int .i64 0] 3)).setCell ⟨w2.heap.size, 2, none⟩ (.slice (some ⟨w6.heap.size, 0, none⟩) 3 3)).heap[w6.heap.size]? = some (.cells #[.int .i64 0, .int .i64 0, .int .i64 0] 3 (0, 0)) := by (simp only [heap_alloc_get, heap_setCell_get, heap_drew_get, heap_drewN_get, size_alloc', size_setCell', size_drew', size_drewN', nat_simp1, nat_simp2, nat_simp3, nat_simp4, nat_simp5, if_true, if_false, Option.map_some, *]; first | done | rfl | simp)
            have hRt : (((w6.alloc (.cells #[.int .i64 0, .int .i64 0, .int .i64 0] 3)).setCell ⟨w2.heap.size, 2, none⟩ (.slice (some ⟨w6.heap.size, 0, none⟩) 3 3)).setCell ⟨w6.heap.size, 0, none⟩ (.int .i64 13)).heap[w.heap.size]? = some (.cells #[.int .i64 0, .int .i64 0, .slice none 0 0] 43 (0, 0)) := by (simp only [heap_alloc_get, heap_setCell_get, heap_drew_get, heap_drewN_get, size_alloc', size_setCell', size_drew', size_drewN', nat_simp1, nat_simp2, nat_simp3, nat_simp4, nat_simp5, if_true, if_false, Option.map_some, *]; first | done | rfl | simp)
            have hBt : (((w6.alloc (.cells #[.int .i64 0, .int .i64 0, .int .i64 0] 3)).setCell ⟨w2.heap.size, 2, none⟩ (.slice (some ⟨w6.heap.size, 0, none⟩) 3 3)).setCell ⟨w6.heap.size, 0, none⟩ (.int .i64 13)).heap[w2.heap.size]? = some (.cells #[.int .i64 x1, .int .i64 (1 + x2), .slice (some ⟨w6.heap.size, 0, none⟩) 3 3] 43 (0, 0)) := by (simp only [heap_alloc_get, heap_setCell_get, heap_drew_get, heap_drewN_get, size_alloc', size_setCell', size_drew', size_drewN', nat_simp1, nat_simp2, nat_simp3, nat_simp4, nat_simp5, if_true, if_false, Option.map_some, *]; first | done | rfl | simp)
            obtain ⟨_, _⟩ := blk_facts hRt
            obtain ⟨_, _⟩ := blk_facts hBt
            obtain ⟨_, _⟩ := blk_facts hBal
            obtain ⟨_, _⟩ := blk_facts hBs
            obtain ⟨_, _⟩ := blk_facts hNs
            go_wp2_with fail
            (refine bodyPost_ret (results_cell_row rfl _ _ (w.heap.size) 43 #[.int .i64 x1, .int .i64 (1 + x2), .slice (some ⟨w6.heap.size, 0, none⟩) 3 3] (0, 0) _ rfl ?_ Try.underlying43 rfl (by kernel_rfl)) rfl ?_)
            · (simp only [heap_alloc_get, heap_setCell_get, heap_drew_get, heap_drewN_get, size_alloc', size_setCell', size_drew', size_drewN', nat_simp1, nat_simp2, nat_simp3, nat_simp4, nat_simp5, if_true, if_false, Option.map_some, *]; first | done | rfl | simp)
            · refine ⟨x1, 1 + x2, _, [13, 0, 0], rfl, ⟨rfl, .inr ⟨w6.heap.size, 3, #[.int .i64 13, .int .i64 0, .int .i64 0], rfl, by omega, ?_, by decide, by unfold maxLen; decide, rfl, rfl⟩⟩, by decide, hi1, hi2, fun a ha => list_I64 (by decide) ha, ?_, ?_⟩
              · (simp only [heap_alloc_get, heap_setCell_get, heap_drew_get, heap_drewN_get, size_alloc', size_setCell', size_drew', size_drewN', nat_simp1, nat_simp2, nat_simp3, nat_simp4, nat_simp5, if_true, if_false, Option.map_some, *]; first | done | rfl | simp)
              · refine Rdr.mono (m := m + 2) ?_ (by omega); (repeat' (first | (with_reducible assumption) | (with_reducible refine Rdr.alloc ?_ _) | (with_reducible refine Rdr.setCell ?_ ?_ _) | (with_reducible refine Rdr.drewN ?_ _) | (with_reducible refine Rdr.drew ?_) | (show _ < _; first | omega | (simp only [size_alloc', size_setCell', size_drew', size_drewN'] at *; omega))))
              · have := hG6.out; (repeat' (first | (with_reducible exact World.grownBy.refl _ _) | (with_reducible refine kp_setCell ?_ ?_ _) | (with_reducible refine kp_alloc ?_ _) | (with_reducible refine kp_drew ?_) | (with_reducible refine kp_drewN ?_ _) | (with_reducible refine kp_trans ?_ (by with_reducible assumption)) | (show _ ∨ _; first | (left; omega) | (right; omega) | (right; simp only [size_alloc', size_setCell', size_drew', size_drewN'] at *; omega)) | (with_reducible refine kp_below ?_ (by with_reducible assumption))))
end Go.Proofs.Ytlhekgjckjcbhaa
