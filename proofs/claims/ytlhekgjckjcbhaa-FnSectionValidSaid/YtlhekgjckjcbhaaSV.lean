/- The walk of FnSectionValid. Conditions: none. -/
import Derived.Test.YtlhekgjckjcbhaaS7
import Derived.Test.YtlhekgjckjcbhaaRM
import Derived.Test.YtlhekgjckjcbhaaAP
namespace Go.Proofs.Ytlhekgjckjcbhaa
open Go.RowKit
set_option linter.unusedSimpArgs false
set_option linter.unusedVariables false
set_option maxHeartbeats 16000000
set_option maxRecDepth 100000
theorem ite_yes {c : Prop} [Decidable c] {A B : Prop} (h : c) (hA : A) : if c then A else B := by rw [if_pos h]; exact hA
theorem wp_append_run {P : Program} {o : Oper} {a : Act} {K : Act → World → Prop} {Q : Exit → Act → World → Prop} {W : World} (s x : Operand) (t : TypeId)
    (ho : o.op = .call { callee := .builtin .append, args := #[s, x], argTypes := #[t, t] }) (u y : Value) (hs : a.eval s = u) (hx : a.eval x = y) (v : Value) (W' : World)
    (hr : (Builtin.append_ #[t, t] o.type #[u, y]).run P W = .ok v W') (hK : K (a.put o.dst v) W') : o.wp P a W K Q := by
  unfold Oper.wp execOp
  simp only [ho, resolve, invoke, builtin, Sem.run_bind, Sem.run_pure, Result.andThen_ok, List.map_toArray, List.map_cons, List.map_nil, hs, hx, hr]
  exact hK
theorem secOk_more {b t : Int} {l : List Int} (h : secOk b t l = true) (hl : 0 < l.length) : secOk b t (l ++ [0]) = false := by
  unfold secOk endOk at *
  simp only [Bool.and_eq_true, Bool.or_eq_true, beq_iff_eq] at h
  have h1 : (l.length : Int) = t := by
    rcases h.1.2 with h0 | h0
    · have : l.length = 0 := by simpa using h0
      omega
    · simpa using h0
  have e1 : ((l ++ [0]).length == 0) = false := by simp
  have e2 : (((l ++ [0]).length : Int) == t) = false := by rw [beq_eq_false_iff_ne, List.length_append]; simp; omega
  rw [e1, e2]
  simp
theorem secOk_never (b : Int) : secOk b 0 [] = false := by
  unfold secOk endOk
  rw [show inB 0 1 4 = false by decide]
  simp
/-- One number more behind a row of the call's own: what was a row is one. -/
theorem app1_keep {P : Program} {W : World} {B gv n cap : Nat} {xs : List Value} {y : Value} {t ty e : TypeId} (i : TypeInfo) (z : Value) (ht : P.underlying t = some (.slice e)) (hi : P.info? e = some i) (hz : i.zero = some z) (h1 : i.size = 1) (h8 : i.bytes = 8) (hz1 : z.cells.size = 1)
    (hown : W.ownsRow B e 1 (.slice (some ⟨gv, 0, none⟩) n cap) n xs) (hB : B ≤ W.heap.size) (hn : n ≤ 1000) (b : Nat) (hy : W.heap[b]? = some (.cells #[y] e (0, 0))) (hy1 : y.oneCell' = true) :
    ∃ v' W', (Builtin.append_ #[t, t] ty #[.slice (some ⟨gv, 0, none⟩) n cap, .slice (some ⟨b, 0, none⟩) 1 1]).run P W = .ok v' W' ∧ W'.ownsRow B e 1 v' (n + 1) (xs ++ [y]) ∧
      (Mv (fun _ => False) W W' ∨ (n + 1 ≤ cap ∧ W' = W.setCell ⟨gv, n, none⟩ y)) := by
  have hxl := hown.1
  have hcl := own_cells hown
  have hyc : ∀ j u, [y][j]? = some u → W.cell? ((⟨b, 0, none⟩ : Addr).add j) = some u := by
    intro j u hj
    match j, hj with
    | 0, hj => simp at hj; subst hj; simp [Addr.add, cell_of_row W b 0 _ _ _ hy]
  rcases hown.2 with ⟨hc, _⟩ | ⟨g2, cap2, cur, hv, hb, hg, hle, hmx, hsz, htk⟩
  · cases hc
  · cases hv
    by_cases hfit : n + 1 ≤ cap
    · have hlt : n < cur.size := by rw [hsz]; omega
      have hr := run_append_room_cells (P := P) W t ty e i ht hi gv 0 n cap ⟨b, 0, none⟩ 1 1 [y] (by rw [h1]; rfl) hyc (by intro u hu; simp at hu; subst hu; exact hy1) hfit
        (by intro j hj; simp at hj; subst hj; rw [h1, cell_of_row W gv _ _ _ _ hg]; simp; omega) (by intro j hj; exact (blk_facts hg).2 _)
      have hset : W.setCells gv (0 + n * i.size) [y] = W.setCell ⟨gv, n, none⟩ y := by
        rw [h1, Nat.mul_one, Nat.zero_add]
        rfl
      rw [hset] at hr
      refine ⟨_, _, hr, ?_, .inr ⟨hfit, rfl⟩⟩
      refine ⟨by simp [hxl], .inr ⟨gv, cap, cur.setIfInBounds n y, rfl, hb, by simp [heap_setCell_get, hg], hfit, hmx, by simpa using hsz, ?_⟩⟩
      rw [Array.toList_setIfInBounds, Nat.mul_one, List.take_succ_eq_append_getElem (by simp; omega), List.take_set_of_le (Nat.le_refl _)]
      rw [Nat.mul_one] at htk
      rw [htk]
      simp
    · obtain ⟨v', W', hr, ho, hk⟩ := run_append_arg_grows (P := P) W t ty e i z 1 8 ht hi hz h1 h8 hz1 (by omega) ⟨gv, 0, none⟩ n cap xs hxl (by
        intro j u hu
        have := hcl j u hu
        have hadd : (⟨gv, 0, none⟩ : Addr).add j = ⟨gv, 0 + j, none⟩ := by unfold Addr.add; split <;> simp_all
        rw [hadd]
        exact this) ⟨b, 0, none⟩ 1 1 [y] rfl hyc (by omega) (by unfold maxLen; omega) (by omega)
      exact ⟨v', W', hr, own_monoA ho hB, .inl ⟨hk.os, hk.tape, hk.output, hk.size, fun c hc _ => hk.block c hc (by simp)⟩⟩
def DSec (w : World) (e : Ending) (w' : World) : Prop := ∃ b t v l, e = .returned (.agg #[.int .i64 b, .int .i64 t, v]) ∧ Rd w' v 1 (l : List Int).length (intCells l) ∧ l.length ≤ 8 ∧ Below w.heap.size w w'
theorem c_DrawSectionValid (v : Value) (bs : List Int) (w : World) (h : Rd w v 1 bs.length (byteCells bs)) (hb : ∀ x ∈ bs, 0 ≤ x ∧ x ≤ 255) :
    Calls Try.prog 21 #[v] w (DSec w) := by
  go_enter Try.func21, Try.ntmps21
  go_wp2_with fail
  (go_at_call 38; (with_reducible refine (c_open _ _ _ (h.alloc _) hb).mono ?_); rintro e w1 ⟨g, rfl, hg, hr1, hbq⟩; have hzq := hbq.size; (try simp only [size_alloc', size_setCell', size_drew', size_drewN'] at hzq hg); (try (refine keep_heap (b := w.heap.size) hbq ?_ ?_; (first | omega | (simp only [size_alloc', size_setCell', size_drew', size_drewN']; omega)); intro hkq; simp only [heap_alloc_get, heap_setCell_get, heap_drew_get, heap_drewN_get, size_alloc', size_setCell', size_drew', size_drewN', nat_simp1, nat_simp2, nat_simp3, nat_simp4, nat_simp5, if_true, if_false, *] at hkq; obtain ⟨_, _⟩ := blk_facts hkq)); (try (refine ne_cps (a := w.heap.size) (b := w1.heap.size) ?_ ?_; omega; intro _ _)); (try (refine ne_cps (a := w.heap.size) (b := w1.heap.size + 1) ?_ ?_; omega; intro _ _)); (try (refine ne_cps (a := w.heap.size) (b := w1.heap.size + 1 + 1) ?_ ?_; omega; intro _ _)); skip)
  have hr2 : Rdr w1 g (0 + 14) := hr1.mono (by omega)
  clear hr1
  go_wp2_with fail
  (go_at_call 54; (with_reducible refine (c_l20Section g 0 _ _ ?_ (by omega) (by omega)).mono ?_); (focus (repeat' (first | (with_reducible assumption) | (with_reducible refine Rdr.alloc ?_ _) | (with_reducible refine Rdr.setCell ?_ ?_ _) | (with_reducible refine Rdr.drewN ?_ _) | (with_reducible refine Rdr.drew ?_) | (show _ < _; first | omega | (simp only [size_alloc', size_setCell', size_drew', size_drewN'] at *; omega))))); rintro e w2 ⟨b, t, v2, l, rfl, hown, hl8, hi1, hi2, hil, hrq, hgq⟩; have hsq := hgq.size; (try simp only [size_alloc', size_setCell', size_drew', size_drewN'] at hsq); (try (refine keep_heap_g (b := w.heap.size) hgq ?_ ?_ ?_; (first | omega | (simp only [size_alloc', size_setCell', size_drew', size_drewN']; omega)); omega; intro hkq; simp only [heap_alloc_get, heap_setCell_get, heap_drew_get, heap_drewN_get, size_alloc', size_setCell', size_drew', size_drewN', nat_simp1, nat_simp2, nat_simp3, nat_simp4, nat_simp5, if_true, if_false, Option.map_some, *] at hkq; obtain ⟨_, _⟩ := blk_facts hkq)); (try (refine ne_cps (a := w.heap.size) (b := w2.heap.size) ?_ ?_; omega; intro _ _)); (try (refine ne_cps (a := w.heap.size) (b := w2.heap.size + 1) ?_ ?_; omega; intro _ _)); (try (refine ne_cps (a := w.heap.size) (b := w2.heap.size + 1 + 1) ?_ ?_; omega; intro _ _)); skip)
  have HOW := Lib.hid hown
  have HK := Lib.hid hgq
  obtain ⟨_, A2, c2, rfl, hn2, hm2, -⟩ := Rd.of_own hown
  have hz12 := hgq.size
  clear hown hgq
  have hz : w2.heap[w.heap.size]? = some (.cells #[.int .i64 0, .int .i64 0, .slice none 0 0] 43 (0, 0)) := by assumption
  have HZ := Lib.hid hz
  go_wp2_with fail
  (refine bodyPost_ret (results_cell_row rfl _ _ (w.heap.size) 43 #[.int .i64 b, .int .i64 t, .slice A2 l.length c2] (0, 0) _ rfl ?_ Try.underlying43 rfl (by kernel_rfl)) rfl ?_)
  · (simp only [heap_alloc_get, heap_setCell_get, heap_drew_get, heap_drewN_get, size_alloc', size_setCell', size_drew', size_drewN', nat_simp1, nat_simp2, nat_simp3, nat_simp4, nat_simp5, if_true, if_false, Option.map_some, *]; first | done | rfl | simp)
  · refine ⟨b, t, _, l, rfl, Rd.of_own (Mv.own HOW.out (Mv.set3 w2 w.heap.size 0 1 2 _ _ _) (fun x hx => by rw [hx]; omega)), hl8, ?_⟩
    · refine Below.setCell (Below.setCell (Below.setCell (below_of_kp ?_ HK.out (by omega) (by omega)) ?_ _) ?_ _) ?_ _ <;> (repeat' (first | (with_reducible exact Below.refl _ _) | (with_reducible refine Below.setCell ?_ ?_ _) | (with_reducible refine Below.alloc ?_ ?_ _) | (with_reducible refine Below.drew ?_) | (with_reducible refine below_drewN ?_ _) | (with_reducible refine Below.trans ?_ (Below.mono (by with_reducible assumption) ?_)) | omega | (simp only [size_alloc', size_setCell', size_drew', size_drewN'] at *; omega)))
theorem rd_nil (W : World) : Rd W (.slice none 0 0) 1 ([] : List Int).length (intCells []) := ⟨rfl, none, 0, rfl, Nat.le_refl _, by simp [maxLen], fun h0 => absurd h0 (by simp)⟩
theorem own_mvF {base e size n m : Nat} {v : Value} {xs : List Value} {W W' : World} (h : W.ownsRow base e size v n xs) (hm : Mv (fun _ => False) W W') : W'.ownsRow base e size v n xs := Mv.own h hm (fun _ h => h.elim)
theorem c_SecNever (b : Int) (w : World) : Calls Try.prog 22 #[.agg #[.int .i64 b, .int .i64 0, .slice none 0 0]] w fun e w' => e = .returned (.bool false) ∧ Below w.heap.size w w' := by
  have h := c_SectionValid b 0 (.slice none 0 0) [] w (rd_nil w)
  rwa [secOk_never] at h
def JSV (B r bb off n c : Nat) (b t : Int) (l : List Int) (i : Nat) (v : Value) (W : World) : Prop :=
  match i with
  | 0 => v = .bool true
  | 1 => v = .bool false
  | 2 => v = .bool false
  | 3 => v = .pointer (some ⟨r, 2, none⟩)
  | 4 => v = .slice (some ⟨bb, off, none⟩) n c
  | 5 => v = .int .i64 n
  | 6 => v = .bool false
  | 7 => v = .bool false
  | 8 => v = .bool false
  | 9 => v = .pointer (some ⟨r, 0, none⟩)
  | 10 => v = .int .i64 b
  | 11 => v = .pointer (some ⟨r, 1, none⟩)
  | 12 => v = .int .i64 t
  | 13 => ∃ q, v = .slice (some ⟨q, 0, none⟩) 0 0 ∧ B ≤ q ∧ W.heap[q]? = some (.cells #[] 3 (0, 0))
  | 14 => v = .pointer (some ⟨r, 2, none⟩)
  | 15 => v = .slice (some ⟨bb, off, none⟩) n c
  | 16 => ∃ q cap, v = .slice (some ⟨q, 0, none⟩) n cap ∧ W.ownsRow B 3 1 (.slice (some ⟨q, 0, none⟩) n cap) n (intCells l)
  | 17 => ∃ q, v = .slice (some ⟨q, 0, none⟩) 1 1 ∧ B ≤ q ∧ W.heap[q]? = some (.cells #[.int .i64 0] 3 (0, 0))
  | 18 => ∃ q cap, v = .slice (some ⟨q, 0, none⟩) (n + 1) cap ∧ W.ownsRow B 3 1 (.slice (some ⟨q, 0, none⟩) (n + 1) cap) (n + 1) (intCells l ++ [.int .i64 0])
  | 19 => ∃ q cap, v = .agg #[.int .i64 b, .int .i64 t, .slice (some ⟨q, 0, none⟩) (n + 1) cap] ∧ W.ownsRow B 3 1 (.slice (some ⟨q, 0, none⟩) (n + 1) cap) (n + 1) (intCells l ++ [.int .i64 0])
  | 20 => v = .bool false
  | 21 => v = .bool true
  | 22 => v = .bool true
  | 23 => v = .bool true
  | 24 => v = .pointer (some ⟨r, 0, none⟩)
  | 25 => v = .int .i64 b
  | 26 => v = .agg #[.int .i64 b, .int .i64 0, .slice none 0 0]
  | 27 => v = .bool false
  | 28 => v = .bool true
  | 29 => v = .bool true
  | 30 => v = .bool true
  | 31 => v = .bool true
  | 32 => v = .bool true
  | 33 => v = .bool true
  | _ => True
theorem JSV.mv {B r bb off n c : Nat} {b t : Int} {l : List Int} {W W' : World} (hm : Mv (fun _ => False) W W') : ∀ j u, JSV B r bb off n c b t l j u W → JSV B r bb off n c b t l j u W' := by
  intro j u h
  unfold JSV at *
  split at h
  case h_14 => obtain ⟨q, h1, h2, h3⟩ := h; exact ⟨q, h1, h2, hm.heap h3 (fun h => h)⟩
  case h_17 => obtain ⟨q, cap, h1, h2⟩ := h; exact ⟨q, cap, h1, own_mvF (m := 0) h2 hm⟩
  case h_18 => obtain ⟨q, h1, h2, h3⟩ := h; exact ⟨q, h1, h2, hm.heap h3 (fun h => h)⟩
  case h_19 => obtain ⟨q, cap, h1, h2⟩ := h; exact ⟨q, cap, h1, own_mvF (m := 0) h2 hm⟩
  case h_20 => obtain ⟨q, cap, h1, h2⟩ := h; exact ⟨q, cap, h1, own_mvF (m := 0) h2 hm⟩
  all_goals exact h
theorem own_setR {W : World} {base e size g n cap m i : Nat} {xs : List Value} {u : Value} (h : W.ownsRow base e size (.slice (some ⟨g, 0, none⟩) n cap) m xs) (hs : xs.set i u = xs) : (W.setCell ⟨g, i, none⟩ u).ownsRow base e size (.slice (some ⟨g, 0, none⟩) n cap) m xs := by
  refine ⟨h.1, ?_⟩
  rcases h.2 with ⟨hc, _⟩ | ⟨g2, cap2, cur, hv, hb, hg, h1, h2, hs2, ht⟩
  · cases hc
  · cases hv
    refine .inr ⟨g, cap, cur.setIfInBounds i u, rfl, hb, ?_, h1, h2, by simpa using hs2, ?_⟩
    · simp [heap_setCell_get, hg]
    · rw [Array.toList_setIfInBounds, List.take_set, ht, hs]
theorem own_blkR {W : World} {base e g n cap m : Nat} {xs : List Value} (h : W.ownsRow base e 1 (.slice (some ⟨g, 0, none⟩) n cap) m xs) : ∃ cur : Array Value, W.heap[g]? = some (.cells cur e (0, 0)) ∧ cur.size = cap := by
  rcases h.2 with ⟨hc, _⟩ | ⟨g2, cap2, cur, hv, _, hg, _, _, hs, _⟩
  · cases hc
  · cases hv; exact ⟨cur, hg, by simpa using hs⟩
theorem own_formR {W : World} {base e size n : Nat} {v : Value} {xs : List Value} (h : W.ownsRow base e size v n xs) (hn : 0 < n) : ∃ g cap, v = .slice (some ⟨g, 0, none⟩) n cap := by
  rcases h.2 with ⟨_, h0⟩ | ⟨g, cap, cur, hv, _⟩
  · omega
  · exact ⟨g, cap, hv⟩
theorem Mv.fresh1 {X : Nat → Prop} {a w : World} {b i : Nat} {u : Value} (h : Mv X a w) (hb : a.heap.size ≤ b) : Mv X a (w.setCell ⟨b, i, none⟩ u) :=
  ⟨h.os, h.tape, h.output, by simpa [World.setCell] using h.size, fun c hc hx => by
    rw [Below.heap_setCell _ ⟨b, i, none⟩ _ c (by show c ≠ b; omega)]
    exact h.block c hc hx⟩
/-- The second append, in place. -/
theorem JSV.st {B r bb off n c gv cap : Nat} {b t : Int} {l : List Int} {W : World} (hl : n = l.length) (hn : 0 < n) (hfit : n + 1 ≤ cap) (hown : W.ownsRow B 3 1 (.slice (some ⟨gv, 0, none⟩) n cap) n (intCells l)) :
    ∀ j u, JSV B r bb off n c b t l j u W → JSV B r bb off n c b t l j u (W.setCell ⟨gv, n, none⟩ (.int .i64 0)) := by
  obtain ⟨cur, hg, hs⟩ := own_blkR hown
  have hxl : (intCells l).length = n := by rw [hl]; exact intCells_lenA l
  have e1 : (intCells l).set n (Value.int .i64 0) = intCells l := List.set_eq_of_length_le (by omega)
  have e2 : (intCells l ++ [Value.int .i64 0]).set n (Value.int .i64 0) = intCells l ++ [Value.int .i64 0] := by
    rw [List.set_append_right _ _ (by omega), hxl, Nat.sub_self]
    rfl
  intro j u h
  have hm : Mv (· = gv) W (W.setCell ⟨gv, n, none⟩ (.int .i64 0)) := Mv.setCell (X := (· = gv)) W (p := ⟨gv, n, none⟩) rfl _
  unfold JSV at *
  split at h
  case h_14 =>
    obtain ⟨q, h1, h2, h3⟩ := h
    refine ⟨q, h1, h2, hm.heap h3 ?_⟩
    rintro rfl
    rw [hg] at h3
    cases h3
    simp at hs
    omega
  case h_18 =>
    obtain ⟨q, h1, h2, h3⟩ := h
    refine ⟨q, h1, h2, hm.heap h3 ?_⟩
    rintro rfl
    rw [hg] at h3
    cases h3
    simp at hs
    omega
  case h_17 =>
    obtain ⟨q, cp, h1, h2⟩ := h
    refine ⟨q, cp, h1, ?_⟩
    by_cases hq : q = gv
    · subst hq; exact own_setR h2 e1
    · exact Mv.own1 h2 hm hq
  case h_19 =>
    obtain ⟨q, cp, h1, h2⟩ := h
    refine ⟨q, cp, h1, ?_⟩
    by_cases hq : q = gv
    · subst hq; exact own_setR h2 e2
    · exact Mv.own1 h2 hm hq
  case h_20 =>
    obtain ⟨q, cp, h1, h2⟩ := h
    refine ⟨q, cp, h1, ?_⟩
    by_cases hq : q = gv
    · subst hq; exact own_setR h2 e2
    · exact Mv.own1 h2 hm hq
  all_goals exact h
theorem own_more {W : World} {B n : Nat} {v : Value} {l : List Int} (hl : l.length = n) (h : W.ownsRow B 3 1 v (n + 1) (intCells l ++ [.int .i64 0])) : Rd W v 1 (l ++ [0]).length (intCells (l ++ [0])) := by
  have e : intCells (l ++ [0]) = intCells l ++ [.int .i64 0] := by rw [intCells_app]; rfl
  rw [e, List.length_append, hl]
  exact Rd.of_own h
theorem walk_FnSectionValid (w : World) (v : Value) (bs : List Int) (h : Rd w v 1 bs.length (byteCells bs)) (hb : ∀ x ∈ bs, 0 ≤ x ∧ x ≤ 255) :
    Calls Try.prog 6 #[v] w fun e w' => e = .returned (.bool true) ∧ Below w.heap.size w w' := by
  have h' := Lib.hid h
  obtain ⟨_, A, c, rfl, hnc, hcm, hA⟩ := h
  unfold maxLen at hcm
  clear hA
  by_cases hlen : bs.length ≤ 1048576
  · go_enter Try.func6, Try.ntmps6
    go_wp2_with fail
    (go_at_call 21; (with_reducible refine (c_DrawSectionValid _ bs _ h'.out hb).mono ?_); rintro e w1 ⟨sb, st, sv, l, rfl, hrd, hl8, S1⟩)
    have HR1 := Lib.hid (hrd.alloc (.cells #[.int .i64 sb, .int .i64 st, sv] 43))
    obtain ⟨_, A1, c1, rfl, hnc1, hcm1, -⟩ := hrd
    unfold maxLen at hcm1
    have hz1 := S1.size
    have HX1 := Lib.hid (heap_alloc_new w1 (.cells #[.int .i64 sb, .int .i64 st, .slice A1 l.length c1] 43))
    obtain ⟨_, _⟩ := blk_facts HX1.out
    have S2 : Below w.heap.size w (w1.alloc (.cells #[.int .i64 sb, .int .i64 st, .slice A1 l.length c1] 43)) := S1.trans ((bel1 w1 _).mono hz1)
    go_wp2_with fail
    (go_at_call 22; (with_reducible refine (c_SectionValid sb st _ l _ HR1.out).mono ?_); rintro e w2 ⟨rfl, hb2⟩; have S2 := (S2.trans (hb2.mono S2.size)))
    have HR2 := Lib.hid (HR1.out.below (Nat.le_refl _) hb2)
    have HX2 := Lib.hid (below_heap hb2 HX1.out)
    obtain ⟨_, _⟩ := blk_facts HX2.out
    cases hv : secOk sb st l
    · go_wp2_with fail
      (go_at_call 23; (with_reducible refine (c_sSectionValid sb st _ l _ HR2.out).mono ?_); rintro e w3 ⟨rfl, hb3⟩; have S2 := (S2.trans (hb3.mono S2.size)))
      rw [hv]
      obtain ⟨_, _⟩ := blk_facts (below_heap hb3 HX2.out)
      go_wp2_with fail
      (refine wp_region_more_lit (by kernel_rfl) (by kernel_rfl) ?_; (repeat (go_big_quiet_step (first | (go_at_call 22; with_reducible exact Calls.more_of (c_SecNever sb _)) | (go_at_call 12; with_reducible exact Calls.more_of (c_alive _))))); refine wpQuiet_nil ?_; intro wq hwq; have hbq := below_of_more hwq; clear hwq; have hzq := hbq.size; (try simp only [size_alloc', size_setCell', size_drew', size_drewN'] at hzq); skip)
      have hz3 := S2.size
      go_wp2_with fail
      go_ret
      exact ⟨rfl, S2.trans (hbq.mono hz3)⟩
    · have HV := Lib.hid hv
      go_wp2_with fail
      (go_at_call 23; (with_reducible refine (c_sSectionValid sb st _ l _ HR2.out).mono ?_); rintro e w3 ⟨rfl, hb3⟩; have S2 := (S2.trans (hb3.mono S2.size)))
      rw [HV.out]
      have HR3 := Lib.hid (HR2.out.below (Nat.le_refl _) hb3)
      have HX3 := Lib.hid (below_heap hb3 HX2.out)
      have hz3 := S2.size
      have S9 := Lib.hid S2
      by_cases hl0 : l.length = 0
      · obtain rfl : l = [] := List.eq_nil_of_length_eq_zero hl0
        obtain ⟨_, _⟩ := blk_facts HX3.out
        go_wp2_with fail
        (refine wp_region_more_lit (by kernel_rfl) (by kernel_rfl) ?_; (repeat (go_big_quiet_step (first | (go_at_call 22; with_reducible exact Calls.more_of (c_SecNever sb _)) | (go_at_call 12; with_reducible exact Calls.more_of (c_alive _))))); refine wpQuiet_nil ?_; intro wq hwq; have hbq := below_of_more hwq; clear hwq; have hzq := hbq.size; (try simp only [size_alloc', size_setCell', size_drew', size_drewN'] at hzq); skip)
        go_wp2_with fail
        go_ret
        exact ⟨rfl, S9.out.trans (hbq.mono hz3)⟩
      · have HF := Lib.hid (secOk_more hv (by omega))
        have hlp : 0 < l.length := by omega
        have hln0 : ((l.length : Int) == 0) = false := by rw [beq_eq_false_iff_ne]; omega
        obtain ⟨_, A3, c3, he, _, _, hA3⟩ := HR3.out
        cases he
        obtain ⟨bb, off, rfl, hcc⟩ := hA3 hlp
        have HC3 := Lib.hid hcc
        generalize hn : l.length = n at *
        have HN := Lib.hid hn
        generalize hr : w1.heap.size = r at *
        clear hl0 hA3 hcc hn hr hv
        obtain ⟨i0, hi0, hz0, hz1, hz2⟩ := info_parts info_int
        have HP := Lib.hid (And.intro hi0 (And.intro hz0 (And.intro hz1 hz2)))
        clear hi0 hz0 hz1 hz2
        go_wp2_with fail
        obtain ⟨hi0, hz0, hz1, hz2⟩ := HP.out
        refine wp_region_rg ?F (fun _ W => Mv (fun _ => False) w3 W) (JSV w3.heap.size r bb off n c1 sb st l) (fun _ => 0) (fun _ => false) 0 ?hF (by kernel_rfl) (by kernel_rfl) (by kernel_rfl) (by kernel_rfl) (Mv.drew _) ?_ ?_
        case hF =>
          intro vs
          simp [fillA, Act.put]
          rfl
        (refine RGAll.plain rfl ?_ ?_; focus (intro vs W m hm0 hM hdep K hK; clear hdep; go_wp2_with fail; exact ⟨_, rfl, hM, rfl, fun _ _ h => h⟩))
        (refine RGAll.plain rfl ?_ ?_; focus (intro vs W m hm0 hM hdep K hK; have e0 : vs 0 = .bool true := depOf hdep 0 (by kernel_rfl); simp only [e0] at hK ⊢; clear hdep; go_wp2_with fail; exact ⟨_, rfl, hM, rfl, fun _ _ h => h⟩))
        (refine RGAll.plain rfl ?_ ?_; focus (intro vs W m hm0 hM hdep K hK; have e1 : vs 1 = .bool false := depOf hdep 1 (by kernel_rfl); simp only [e1] at hK ⊢; clear hdep; go_wp2_with fail; exact ⟨_, rfl, hM, rfl, fun _ _ h => h⟩))
        (refine RGAll.cons ?_ ?_; focus (intro vs W m hm0 hM hdep K hK; have e2 : vs 2 = .bool false := depOf hdep 2 (by kernel_rfl); simp only [e2] at hK ⊢; clear hdep; skip; go_simp; go_wp2_with fail; exact ⟨_, rfl, hM, rfl, fun _ _ h => h⟩))
        (refine RGAll.cons ?_ ?_; focus (intro vs W m hm0 hM hdep K hK; have e3 : vs 3 = .pointer (some ⟨r, 2, none⟩) := depOf hdep 3 (by kernel_rfl); have e2 : vs 2 = .bool false := depOf hdep 2 (by kernel_rfl); simp only [e3, e2] at hK ⊢; clear hdep; obtain ⟨_, _⟩ := blk_facts (hM.heap HX3.out (fun h => h)); go_simp; go_wp2_with fail; exact ⟨_, rfl, hM, rfl, fun _ _ h => h⟩))
        (refine RGAll.cons ?_ ?_; focus (intro vs W m hm0 hM hdep K hK; have e4 : vs 4 = .slice (some ⟨bb, off, none⟩) n c1 := depOf hdep 4 (by kernel_rfl); have e2 : vs 2 = .bool false := depOf hdep 2 (by kernel_rfl); simp only [e4, e2] at hK ⊢; clear hdep; skip; go_simp; go_wp2_with fail; exact ⟨_, rfl, hM, rfl, fun _ _ h => h⟩))
        (refine RGAll.cons ?_ ?_; focus (intro vs W m hm0 hM hdep K hK; have e5 : vs 5 = .int .i64 n := depOf hdep 5 (by kernel_rfl); have e2 : vs 2 = .bool false := depOf hdep 2 (by kernel_rfl); simp only [e5, e2] at hK ⊢; clear hdep; skip; go_simp; go_wp2_with fail; exact ⟨_, rfl, hM, rfl, fun _ _ h => h⟩))
        (refine RGAll.plain rfl ?_ ?_; focus (intro vs W m hm0 hM hdep K hK; have e2 : vs 2 = .bool false := depOf hdep 2 (by kernel_rfl); have e6 : vs 6 = .bool false := depOf hdep 6 (by kernel_rfl); simp only [e2, e6] at hK ⊢; clear hdep; go_wp2_with fail; exact ⟨_, rfl, hM, rfl, fun _ _ h => h⟩))
        (refine RGAll.plain rfl ?_ ?_; focus (intro vs W m hm0 hM hdep K hK; have e7 : vs 7 = .bool false := depOf hdep 7 (by kernel_rfl); simp only [e7] at hK ⊢; clear hdep; go_wp2_with fail; exact ⟨_, rfl, hM, rfl, fun _ _ h => h⟩))
        (refine RGAll.cons ?_ ?_; focus (intro vs W m hm0 hM hdep K hK; have e8 : vs 8 = .bool false := depOf hdep 8 (by kernel_rfl); simp only [e8] at hK ⊢; clear hdep; skip; go_simp; go_wp2_with fail; exact ⟨_, rfl, hM, rfl, fun _ _ h => h⟩))
        (refine RGAll.cons ?_ ?_; focus (intro vs W m hm0 hM hdep K hK; have e9 : vs 9 = .pointer (some ⟨r, 0, none⟩) := depOf hdep 9 (by kernel_rfl); have e8 : vs 8 = .bool false := depOf hdep 8 (by kernel_rfl); simp only [e9, e8] at hK ⊢; clear hdep; obtain ⟨_, _⟩ := blk_facts (hM.heap HX3.out (fun h => h)); go_simp; go_wp2_with fail; exact ⟨_, rfl, hM, rfl, fun _ _ h => h⟩))
        (refine RGAll.cons ?_ ?_; focus (intro vs W m hm0 hM hdep K hK; have e8 : vs 8 = .bool false := depOf hdep 8 (by kernel_rfl); simp only [e8] at hK ⊢; clear hdep; skip; go_simp; go_wp2_with fail; exact ⟨_, rfl, hM, rfl, fun _ _ h => h⟩))
        (refine RGAll.cons ?_ ?_; focus (intro vs W m hm0 hM hdep K hK; have e11 : vs 11 = .pointer (some ⟨r, 1, none⟩) := depOf hdep 11 (by kernel_rfl); have e8 : vs 8 = .bool false := depOf hdep 8 (by kernel_rfl); simp only [e11, e8] at hK ⊢; clear hdep; obtain ⟨_, _⟩ := blk_facts (hM.heap HX3.out (fun h => h)); go_simp; go_wp2_with fail; exact ⟨_, rfl, hM, rfl, fun _ _ h => h⟩))
        (refine RGAll.cons ?_ ?_; focus (intro vs W m hm0 hM hdep K hK; have e8 : vs 8 = .bool false := depOf hdep 8 (by kernel_rfl); simp only [e8] at hK ⊢; clear hdep; skip; go_simp; go_wp2_with fail; exact ⟨_, rfl, hM.trans (Mv.alloc _ _), ⟨_, rfl, hM.size, heap_alloc_new W _⟩, JSV.mv (Mv.alloc _ _)⟩))
        (refine RGAll.cons ?_ ?_; focus (intro vs W m hm0 hM hdep K hK; have e8 : vs 8 = .bool false := depOf hdep 8 (by kernel_rfl); simp only [e8] at hK ⊢; clear hdep; skip; go_simp; go_wp2_with fail; exact ⟨_, rfl, hM, rfl, fun _ _ h => h⟩))
        (refine RGAll.cons ?_ ?_; focus (intro vs W m hm0 hM hdep K hK; have e14 : vs 14 = .pointer (some ⟨r, 2, none⟩) := depOf hdep 14 (by kernel_rfl); have e8 : vs 8 = .bool false := depOf hdep 8 (by kernel_rfl); simp only [e14, e8] at hK ⊢; clear hdep; obtain ⟨_, _⟩ := blk_facts (hM.heap HX3.out (fun h => h)); go_simp; go_wp2_with fail; exact ⟨_, rfl, hM, rfl, fun _ _ h => h⟩))
        refine RGAll.cons ?_ ?_
        · intro vs W m hm0 hM hdep K hK
          have e8 : vs 8 = .bool false := depOf hdep 8 (by kernel_rfl)
          obtain ⟨q, e13, hq1, hq2⟩ := depOf hdep 13 (by kernel_rfl)
          have e15 : vs 15 = .slice (some ⟨bb, off, none⟩) n c1 := depOf hdep 15 (by kernel_rfl)
          simp only [e8, e13, e15] at hK ⊢
          clear hdep
          refine ite_yes (by kernel_rfl) ?_
          obtain ⟨v', W', hr, ho, hk⟩ := run_append_arg_grows (P := Try.prog) W 41 41 3 i0 (.int .i64 0) 1 8 Try.underlying41 hi0 hz0 hz1 hz2 rfl (by decide) ⟨q, 0, none⟩ 0 0 [] rfl (by simp) ⟨bb, off, none⟩ n c1 (intCells l) (by rw [intCells_lenA, HN.out, Nat.mul_one])
            (by intro j u hu; have hadd : (⟨bb, off, none⟩ : Addr).add j = ⟨bb, off + j, none⟩ := (by unfold Addr.add; split <;> simp_all); rw [hadd]; exact hM.cell (HC3.out j u hu) (fun h => h)) (by omega) (by unfold maxLen; omega) (by omega)
          rw [Nat.zero_add, List.nil_append] at ho
          obtain ⟨g, cap, rfl⟩ := own_formR ho hlp
          have hmv : Mv (fun _ => False) W W' := ⟨hk.os, hk.tape, hk.output, hk.size, fun c hc _ => hk.block c hc (by simp)⟩
          refine wp_append_run (.tmp 29) (.tmp 31) 41 rfl _ _ rfl rfl _ _ hr (hK _ _ ⟨_, rfl, hM.trans hmv, ⟨g, cap, rfl, own_monoA ho hM.size⟩, JSV.mv hmv⟩)
        (refine RGAll.cons ?_ ?_; focus (intro vs W m hm0 hM hdep K hK; have e8 : vs 8 = .bool false := depOf hdep 8 (by kernel_rfl); simp only [e8] at hK ⊢; clear hdep; skip; go_simp; go_wp2_with fail; exact ⟨_, rfl, hM.trans (Mv.alloc _ _), ⟨_, rfl, hM.size, heap_alloc_new W _⟩, JSV.mv (Mv.alloc _ _)⟩))
        refine RGAll.cons ?_ ?_
        · intro vs W m hm0 hM hdep K hK
          have e8 : vs 8 = .bool false := depOf hdep 8 (by kernel_rfl)
          obtain ⟨q, cap, e16, ho⟩ := depOf hdep 16 (by kernel_rfl)
          obtain ⟨q2, e17, hq1, hq2⟩ := depOf hdep 17 (by kernel_rfl)
          simp only [e8, e16, e17] at hK ⊢
          clear hdep
          refine ite_yes (by kernel_rfl) ?_
          obtain ⟨v', W', hr, ho2, hcase⟩ := app1_keep (P := Try.prog) (t := 41) (ty := 41) i0 (.int .i64 0) Try.underlying41 hi0 hz0 hz1 hz2 rfl ho hM.size (by omega) q2 hq2 rfl
          obtain ⟨g, cap2, rfl⟩ := own_formR ho2 (by omega)
          refine wp_append_run (.tmp 32) (.tmp 33) 41 rfl _ _ rfl rfl _ _ hr (hK _ _ ?_)
          rcases hcase with hmv | ⟨hfit, rfl⟩
          · exact ⟨_, rfl, hM.trans hmv, ⟨g, cap2, rfl, ho2⟩, JSV.mv hmv⟩
          · exact ⟨_, rfl, hM.fresh1 (ho.lt q rfl).1, ⟨g, cap2, rfl, ho2⟩, JSV.st HN.out.symm hlp hfit ho⟩
        (refine RGAll.cons ?_ ?_; focus (intro vs W m hm0 hM hdep K hK; have e8 : vs 8 = .bool false := depOf hdep 8 (by kernel_rfl); have e10 : vs 10 = .int .i64 sb := depOf hdep 10 (by kernel_rfl); have e12 : vs 12 = .int .i64 st := depOf hdep 12 (by kernel_rfl); obtain ⟨q, cap, e18, ho⟩ := depOf hdep 18 (by kernel_rfl); simp only [e8, e10, e12, e18] at hK ⊢; clear hdep; skip; go_simp; go_wp2_with fail; exact ⟨_, rfl, hM, ⟨q, cap, rfl, ho⟩, fun _ _ h => h⟩))
        (refine RGAll.cons ?_ ?_; focus (intro vs W m hm0 hM hdep K hK; have e8 : vs 8 = .bool false := depOf hdep 8 (by kernel_rfl); obtain ⟨q, cap, e19, ho⟩ := depOf hdep 19 (by kernel_rfl); simp only [e8, e19] at hK ⊢; clear hdep; skip; go_simp; (go_at_call 22; (with_reducible refine (c_SectionValid sb st _ (l ++ [0]) _ (own_more HN.out ho)).mono ?_); rintro e w4 ⟨rfl, hb4⟩; rw [HF.out]); go_wp2_with fail; exact ⟨_, rfl, hM.trans (Mv.of_bel hb4), rfl, JSV.mv (Mv.of_bel hb4)⟩))
        (refine RGAll.cons ?_ ?_; focus (intro vs W m hm0 hM hdep K hK; have e20 : vs 20 = .bool false := depOf hdep 20 (by kernel_rfl); have e8 : vs 8 = .bool false := depOf hdep 8 (by kernel_rfl); simp only [e20, e8] at hK ⊢; clear hdep; skip; go_simp; go_wp2_with fail; exact ⟨_, rfl, hM, rfl, fun _ _ h => h⟩))
        (refine RGAll.plain rfl ?_ ?_; focus (intro vs W m hm0 hM hdep K hK; have e8 : vs 8 = .bool false := depOf hdep 8 (by kernel_rfl); have e21 : vs 21 = .bool true := depOf hdep 21 (by kernel_rfl); simp only [e8, e21] at hK ⊢; clear hdep; go_wp2_with fail; exact ⟨_, rfl, hM, rfl, fun _ _ h => h⟩))
        (refine RGAll.plain rfl ?_ ?_; focus (intro vs W m hm0 hM hdep K hK; have e22 : vs 22 = .bool true := depOf hdep 22 (by kernel_rfl); simp only [e22] at hK ⊢; clear hdep; go_wp2_with fail; exact ⟨_, rfl, hM, rfl, fun _ _ h => h⟩))
        (refine RGAll.cons ?_ ?_; focus (intro vs W m hm0 hM hdep K hK; have e23 : vs 23 = .bool true := depOf hdep 23 (by kernel_rfl); simp only [e23] at hK ⊢; clear hdep; skip; go_simp; go_wp2_with fail; exact ⟨_, rfl, hM, rfl, fun _ _ h => h⟩))
        (refine RGAll.cons ?_ ?_; focus (intro vs W m hm0 hM hdep K hK; have e24 : vs 24 = .pointer (some ⟨r, 0, none⟩) := depOf hdep 24 (by kernel_rfl); have e23 : vs 23 = .bool true := depOf hdep 23 (by kernel_rfl); simp only [e24, e23] at hK ⊢; clear hdep; obtain ⟨_, _⟩ := blk_facts (hM.heap HX3.out (fun h => h)); go_simp; go_wp2_with fail; exact ⟨_, rfl, hM, rfl, fun _ _ h => h⟩))
        (refine RGAll.cons ?_ ?_; focus (intro vs W m hm0 hM hdep K hK; have e25 : vs 25 = .int .i64 sb := depOf hdep 25 (by kernel_rfl); have e23 : vs 23 = .bool true := depOf hdep 23 (by kernel_rfl); simp only [e25, e23] at hK ⊢; clear hdep; skip; go_simp; go_wp2_with fail; exact ⟨_, rfl, hM, rfl, fun _ _ h => h⟩))
        (refine RGAll.cons ?_ ?_; focus (intro vs W m hm0 hM hdep K hK; have e23 : vs 23 = .bool true := depOf hdep 23 (by kernel_rfl); have e26 : vs 26 = .agg #[.int .i64 sb, .int .i64 0, .slice none 0 0] := depOf hdep 26 (by kernel_rfl); simp only [e23, e26] at hK ⊢; clear hdep; skip; go_simp; (go_at_call 22; (with_reducible refine (c_SecNever sb _).mono ?_); rintro e w4 ⟨rfl, hb4⟩); go_wp2_with fail; exact ⟨_, rfl, hM.trans (Mv.of_bel hb4), rfl, JSV.mv (Mv.of_bel hb4)⟩))
        (refine RGAll.cons ?_ ?_; focus (intro vs W m hm0 hM hdep K hK; have e27 : vs 27 = .bool false := depOf hdep 27 (by kernel_rfl); have e23 : vs 23 = .bool true := depOf hdep 23 (by kernel_rfl); simp only [e27, e23] at hK ⊢; clear hdep; skip; go_simp; go_wp2_with fail; exact ⟨_, rfl, hM, rfl, fun _ _ h => h⟩))
        (refine RGAll.plain rfl ?_ ?_; focus (intro vs W m hm0 hM hdep K hK; have e23 : vs 23 = .bool true := depOf hdep 23 (by kernel_rfl); have e28 : vs 28 = .bool true := depOf hdep 28 (by kernel_rfl); simp only [e23, e28] at hK ⊢; clear hdep; go_wp2_with fail; exact ⟨_, rfl, hM, rfl, fun _ _ h => h⟩))
        (refine RGAll.plain rfl ?_ ?_; focus (intro vs W m hm0 hM hdep K hK; have e29 : vs 29 = .bool true := depOf hdep 29 (by kernel_rfl); simp only [e29] at hK ⊢; clear hdep; go_wp2_with fail; exact ⟨_, rfl, hM, rfl, fun _ _ h => h⟩))
        (refine RGAll.cons ?_ ?_; focus (intro vs W m hm0 hM hdep K hK; have e30 : vs 30 = .bool true := depOf hdep 30 (by kernel_rfl); simp only [e30] at hK ⊢; clear hdep; skip; go_simp; (go_at_call 12; (with_reducible refine (c_alive _).mono ?_); rintro e w4 ⟨rfl, hb4⟩); go_wp2_with fail; exact ⟨_, rfl, hM.trans (Mv.of_bel hb4), rfl, JSV.mv (Mv.of_bel hb4)⟩))
        (refine RGAll.plain rfl ?_ ?_; focus (intro vs W m hm0 hM hdep K hK; have e30 : vs 30 = .bool true := depOf hdep 30 (by kernel_rfl); have e31 : vs 31 = .bool true := depOf hdep 31 (by kernel_rfl); simp only [e30, e31] at hK ⊢; clear hdep; go_wp2_with fail; exact ⟨_, rfl, hM, rfl, fun _ _ h => h⟩))
        (refine RGAll.plain rfl ?_ ?_; focus (intro vs W m hm0 hM hdep K hK; have e32 : vs 32 = .bool true := depOf hdep 32 (by kernel_rfl); simp only [e32] at hK ⊢; clear hdep; go_wp2_with fail; exact ⟨_, rfl, hM, rfl, fun _ _ h => h⟩))
        · exact RGAll.nil
        · intro vs W hM hJ
          have e33 : vs 33 = .bool true := hJ 33 (by decide)
          clear hJ
          simp only [e33]
          go_wp2_with fail
          go_ret
          exact ⟨rfl, Mv.below S9.out hM (fun _ h => False.elim h) hz3⟩
  · go_enter Try.func6, Try.ntmps6
    go_wp2_with fail
    go_ret
    exact ⟨rfl, Below.refl _ _⟩
end Go.Proofs.Ytlhekgjckjcbhaa
