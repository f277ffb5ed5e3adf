/- What the laws on sections draw; appending whole lists; the walk of FnSectionsValid. Conditions: none beyond the laws' own. -/
import Derived.Test.YtpngjofplbnkjaaS8
namespace Go.Proofs.Ytpngjofplbnkjaa
open Go.RowKit
set_option linter.unusedSimpArgs false
set_option linter.unusedVariables false
set_option maxHeartbeats 8000000

/-- append of a list of sections to a row of the call's own. -/
theorem wp_secsl {W : World} {ops : Array Oper} {rest : List Oper} {o : Oper} {a : Act} {Q : Exit → Act → World → Prop} (hw : Region.wanted o (yielded ops a.tmps) = true) (s x : Operand)
    (ho : o.op = .call { callee := .builtin .append, args := #[s, x], argTypes := #[40, 40] }) (base : Nat) (v : Value) (s0 : List Sec) (hs : a.eval s = v)
    (hown : W.ownsRow base 35 3 v s0.length (secCells s0)) (b off c : Nat) (ss : List Sec) (hx : a.eval x = .slice (some ⟨b, off, none⟩) ss.length c)
    (hc : ∀ j u, (secCells ss)[j]? = some u → W.cell? ⟨b, off + j, none⟩ = some u) (h1 : ∀ s ∈ ss, s.v.oneCell' = true) (hl : s0.length + ss.length ≤ 4000000) (hbase : base ≤ W.heap.size)
    (h : ∀ v' w', w'.ownsRow base 35 3 v' (s0.length + ss.length) (secCells (s0 ++ ss)) → W.grownBy w' v.ownBlock → wpList Try.prog ops Q rest (a.put o.dst v') w') :
    wpList Try.prog ops Q (o :: rest) a W := by
  obtain ⟨i0, hi0, hz0, hz1, hz2⟩ := info_parts info_sec
  refine wpList_wanted hw fun _ hK => wp_append_own W s x 40 ho base 35 i0 _ 3 40 Try.underlying40 hi0 hz0 hz1 hz2 rfl (by decide) v _ _ hs hown ⟨b, off, none⟩ ss.length c (secCells ss) hx ?_ ?_ ?_ ?_ ?_ hbase ?_
  · exact cellsOf_len Sec.cells 3 Sec.cells_len ss
  · intro j u hj
    have hadd : (⟨b, off, none⟩ : Addr).add j = ⟨b, off + j, none⟩ := by unfold Addr.add; split <;> simp_all
    rw [hadd]
    exact hc j u hj
  · intro u hu
    obtain ⟨s, hs, hu⟩ := List.mem_flatMap.1 hu
    simp [Sec.cells] at hu
    rcases hu with rfl | rfl | rfl
    · rfl
    · rfl
    · exact h1 s hs
  · unfold maxLen; omega
  · omega
  · intro v' w' h2 h3 _
    refine hK _ _ (h v' w' ?_ h3)
    rw [show secCells (s0 ++ ss) = secCells s0 ++ secCells ss from cellsOf_append _ _ _]
    exact h2
theorem SRd.one {w : World} {s : Sec} (h : SRd w s) : s.v.oneCell' = true := by
  obtain ⟨_, A, c, hv, _⟩ := h
  rw [hv]
  rfl
def DSecs (w : World) (e : Ending) (w' : World) : Prop :=
  ∃ v ss, e = .returned v ∧ SecsOwn w.heap.size w' v ss ∧ (ss : List Sec).length ≤ 9 ∧ (∀ s ∈ ss, s.l.length ≤ 8) ∧ Below w.heap.size w w'
theorem c_DrawSectionsValid (v : Value) (bs : List Int) (w : World) (h : Rd w v 1 bs.length (byteCells bs)) (hb : ∀ x ∈ bs, 0 ≤ x ∧ x ≤ 255) :
    Calls Try.prog 33 #[v] w (DSecs w) := by
  go_enter Try.func33, Try.ntmps33
  go_wp2_with fail
  (go_at_call 60; (with_reducible refine (c_open _ _ _ (h) hb).mono ?_); rintro e w1 ⟨g, rfl, hg, hr1, hbq⟩; have hzq := hbq.size; (try simp only [size_alloc', size_setCell', size_drew', size_drewN'] at hzq hg); (try (refine keep_heap (b := w.heap.size) hbq ?_ ?_; (first | omega | (simp only [size_alloc', size_setCell', size_drew', size_drewN']; omega)); intro hkq; simp only [heap_alloc_get, heap_setCell_get, heap_drew_get, heap_drewN_get, size_alloc', size_setCell', size_drew', size_drewN', nat_simp1, nat_simp2, nat_simp3, nat_simp4, nat_simp5, if_true, if_false, *] at hkq; obtain ⟨_, _⟩ := blk_facts hkq)); (try (refine ne_cps (a := w.heap.size) (b := w1.heap.size) ?_ ?_; omega; intro _ _)); (try (refine ne_cps (a := w.heap.size) (b := w1.heap.size + 1) ?_ ?_; omega; intro _ _)); (try (refine ne_cps (a := w.heap.size) (b := w1.heap.size + 1 + 1) ?_ ?_; omega; intro _ _)); skip)
  have hr2 := hr1.mono (m' := 0 + 60) (by omega)
  clear hr1
  go_wp2_with fail
  (go_at_call 64; (with_reducible refine (c_l20Sections g 0 _ _ ?_ (by omega) (by omega)).mono ?_); (focus (repeat' (first | (with_reducible assumption) | (with_reducible refine Rdr.alloc ?_ _) | (with_reducible refine Rdr.setCell ?_ ?_ _) | (with_reducible refine Rdr.drewN ?_ _) | (with_reducible refine Rdr.drew ?_) | (show _ < _; first | omega | (simp only [size_alloc', size_setCell', size_drew', size_drewN'] at *; omega))))); rintro e w2 ⟨v2, ss, rfl, hso, hl9, hl8, hrq, hgq⟩; have hsq := hgq.size; (try simp only [size_alloc', size_setCell', size_drew', size_drewN'] at hsq); skip)
  go_wp2_with fail
  go_ret
  exact ⟨_, ss, rfl, hso.mono (by omega), hl9, hl8, below_of_kp hbq hgq hg (by omega)⟩
theorem c_DrawWrittenBars (v : Value) (bs : List Int) (w : World) (h : Rd w v 1 bs.length (byteCells bs)) (hb : ∀ x ∈ bs, 0 ≤ x ∧ x ≤ 255) :
    Calls Try.prog 41 #[v] w (DSecs w) := by
  go_enter Try.func41, Try.ntmps41
  go_wp2_with fail
  (go_at_call 60; (with_reducible refine (c_open _ _ _ (h) hb).mono ?_); rintro e w1 ⟨g, rfl, hg, hr1, hbq⟩; have hzq := hbq.size; (try simp only [size_alloc', size_setCell', size_drew', size_drewN'] at hzq hg); (try (refine keep_heap (b := w.heap.size) hbq ?_ ?_; (first | omega | (simp only [size_alloc', size_setCell', size_drew', size_drewN']; omega)); intro hkq; simp only [heap_alloc_get, heap_setCell_get, heap_drew_get, heap_drewN_get, size_alloc', size_setCell', size_drew', size_drewN', nat_simp1, nat_simp2, nat_simp3, nat_simp4, nat_simp5, if_true, if_false, *] at hkq; obtain ⟨_, _⟩ := blk_facts hkq)); (try (refine ne_cps (a := w.heap.size) (b := w1.heap.size) ?_ ?_; omega; intro _ _)); (try (refine ne_cps (a := w.heap.size) (b := w1.heap.size + 1) ?_ ?_; omega; intro _ _)); (try (refine ne_cps (a := w.heap.size) (b := w1.heap.size + 1 + 1) ?_ ?_; omega; intro _ _)); skip)
  have hr2 := hr1.mono (m' := 0 + 60) (by omega)
  clear hr1
  go_wp2_with fail
  (go_at_call 64; (with_reducible refine (c_l20Sections g 0 _ _ ?_ (by omega) (by omega)).mono ?_); (focus (repeat' (first | (with_reducible assumption) | (with_reducible refine Rdr.alloc ?_ _) | (with_reducible refine Rdr.setCell ?_ ?_ _) | (with_reducible refine Rdr.drewN ?_ _) | (with_reducible refine Rdr.drew ?_) | (show _ < _; first | omega | (simp only [size_alloc', size_setCell', size_drew', size_drewN'] at *; omega))))); rintro e w2 ⟨v2, ss, rfl, hso, hl9, hl8, hrq, hgq⟩; have hsq := hgq.size; (try simp only [size_alloc', size_setCell', size_drew', size_drewN'] at hsq); skip)
  go_wp2_with fail
  go_ret
  exact ⟨_, ss, rfl, hso.mono (by omega), hl9, hl8, below_of_kp hbq hgq hg (by omega)⟩
theorem c_DrawPlayedOrder (v : Value) (bs : List Int) (w : World) (h : Rd w v 1 bs.length (byteCells bs)) (hb : ∀ x ∈ bs, 0 ≤ x ∧ x ≤ 255) :
    Calls Try.prog 43 #[v] w (DSecs w) := by
  go_enter Try.func43, Try.ntmps43
  go_wp2_with fail
  (go_at_call 60; (with_reducible refine (c_open _ _ _ (h) hb).mono ?_); rintro e w1 ⟨g, rfl, hg, hr1, hbq⟩; have hzq := hbq.size; (try simp only [size_alloc', size_setCell', size_drew', size_drewN'] at hzq hg); (try (refine keep_heap (b := w.heap.size) hbq ?_ ?_; (first | omega | (simp only [size_alloc', size_setCell', size_drew', size_drewN']; omega)); intro hkq; simp only [heap_alloc_get, heap_setCell_get, heap_drew_get, heap_drewN_get, size_alloc', size_setCell', size_drew', size_drewN', nat_simp1, nat_simp2, nat_simp3, nat_simp4, nat_simp5, if_true, if_false, *] at hkq; obtain ⟨_, _⟩ := blk_facts hkq)); (try (refine ne_cps (a := w.heap.size) (b := w1.heap.size) ?_ ?_; omega; intro _ _)); (try (refine ne_cps (a := w.heap.size) (b := w1.heap.size + 1) ?_ ?_; omega; intro _ _)); (try (refine ne_cps (a := w.heap.size) (b := w1.heap.size + 1 + 1) ?_ ?_; omega; intro _ _)); skip)
  have hr2 := hr1.mono (m' := 0 + 60) (by omega)
  clear hr1
  go_wp2_with fail
  (go_at_call 64; (with_reducible refine (c_l20Sections g 0 _ _ ?_ (by omega) (by omega)).mono ?_); (focus (repeat' (first | (with_reducible assumption) | (with_reducible refine Rdr.alloc ?_ _) | (with_reducible refine Rdr.setCell ?_ ?_ _) | (with_reducible refine Rdr.drewN ?_ _) | (with_reducible refine Rdr.drew ?_) | (show _ < _; first | omega | (simp only [size_alloc', size_setCell', size_drew', size_drewN'] at *; omega))))); rintro e w2 ⟨v2, ss, rfl, hso, hl9, hl8, hrq, hgq⟩; have hsq := hgq.size; (try simp only [size_alloc', size_setCell', size_drew', size_drewN'] at hsq); skip)
  go_wp2_with fail
  go_ret
  exact ⟨_, ss, rfl, hso.mono (by omega), hl9, hl8, below_of_kp hbq hgq hg (by omega)⟩
theorem secsOk_take {ss : List Sec} (h : secsOk (ss.map Sec.d) = true) (k : Nat) : secsOk ((ss.take k).map Sec.d) = true := by
  obtain ⟨h1, h2⟩ := secsOk_map.1 h
  rw [secsOk_map]
  refine ⟨by rw [List.length_take]; omega, fun i hi => ?_⟩
  rw [List.getElem_take]
  exact h2 i (by rw [List.length_take] at hi; omega)
theorem secsOk_never {ss : List Sec} (v : Value) : secsOk ((ss ++ [Sec.mk 0 0 v []]).map Sec.d) = false := by
  cases h : secsOk ((ss ++ [Sec.mk 0 0 v []]).map Sec.d)
  · rfl
  · have := (secsOk_map.1 h).2 ss.length (by simp)
    simp [SD.ok, Sec.d, secOk, endOk, inB] at this
theorem RdS.take {w : World} {b c : Nat} {ss : List Sec} (h : RdS w (.slice (some ⟨b, 0, none⟩) ss.length c) ss) (k : Nat) (hk : k ≤ ss.length) : RdS w (.slice (some ⟨b, 0, none⟩) k c) (ss.take k) := by
  obtain ⟨⟨h1, A, c', he, h2, h3, h4⟩, hg⟩ := h
  cases he
  refine ⟨⟨cellsOf_len Sec.cells 3 Sec.cells_len _, _, c, by rw [List.length_take, Nat.min_eq_left hk], by rw [List.length_take]; omega, h3, fun h0 => ?_⟩, fun s hs => hg s (List.mem_of_mem_take hs)⟩
  rw [List.length_take] at h0
  obtain ⟨b', off, hb, hc⟩ := h4 (by omega)
  refine ⟨b', off, hb, fun j u hu => hc j u ?_⟩
  rw [show secCells (ss.take k) = (secCells ss).take (k * 3) from (cellsOf_take Sec.cells 3 Sec.cells_len ss k).symm] at hu
  rw [List.getElem?_take] at hu
  split at hu
  · exact hu
  · cases hu
theorem RdS.cells {w : World} {b n c : Nat} {ss : List Sec} (h : RdS w (.slice (some ⟨b, 0, none⟩) n c) ss) : ∀ j u, (secCells ss)[j]? = some u → w.cell? ⟨b, 0 + j, none⟩ = some u := by
  obtain ⟨⟨h1, A, c', he, h2, h3, h4⟩, hg⟩ := h
  cases he
  intro j u hu
  have hj := (List.getElem?_eq_some_iff.1 hu).1
  obtain ⟨b', off, hb, hc⟩ := h4 (by rw [h1] at hj; omega)
  cases hb
  exact hc j u hu
theorem walk_FnSectionsValid (w : World) (v : Value) (bs : List Int) (h : Rd w v 1 bs.length (byteCells bs)) (hb : ∀ x ∈ bs, 0 ≤ x ∧ x ≤ 255) :
    Calls Try.prog 9 #[v] w fun e w' => e = .returned (.bool true) ∧ Below w.heap.size w w' := by
  have h' := Lib.hid h
  obtain ⟨_, A, c, rfl, hnc, hcm, hA⟩ := h
  unfold maxLen at hcm
  clear hA
  by_cases hlen : bs.length ≤ 1048576
  · go_enter Try.func9, Try.ntmps9
    go_wp2_with fail
    (go_at_call 33; (with_reducible refine (c_DrawSectionsValid _ bs _ h'.out hb).mono ?_); rintro e w1 ⟨v1, ss, rfl, hso, hl9, hl8, S2⟩)
    have hz1 := S2.size
    obtain ⟨⟨gb, cap, rfl⟩, hrow, -⟩ := id hso
    have hcap : ss.length ≤ cap := by
      rcases hrow.2 with ⟨h1, _⟩ | ⟨_, _, _, h1, _, _, h2, _⟩
      · cases h1
      · cases h1; exact h2
    have HR := Lib.hid hso.rd
    clear hrow hso
    go_wp2_with fail
    (go_at_call 34; (with_reducible refine (c_SectionsValid _ ss _ HR.out).mono ?_); rintro e w2 ⟨rfl, hb2⟩; have S2 := (S2.trans (hb2.mono S2.size)))
    have HR2 := Lib.hid (HR.out.later hb2)
    go_wp2_with fail
    (go_at_call 35; (with_reducible refine (c_sSectionsValid _ ss _ HR2.out).mono ?_); rintro e w3 ⟨rfl, hb3⟩; have S2 := (S2.trans (hb3.mono S2.size)))
    have HR3 := Lib.hid (HR2.out.later hb3)
    have hz3 := S2.size
    have HP0 := Lib.hid (show (w3.alloc (.cells #[] 35)).ownsRow w3.heap.size 35 3 (.slice (some ⟨w3.heap.size, 0, none⟩) 0 0) ([] : List Sec).length (secCells []) from
      ⟨rfl, .inr ⟨w3.heap.size, 0, #[], rfl, Nat.le_refl _, heap_alloc_new w3 _, Nat.le_refl _, by unfold maxLen; omega, rfl, rfl⟩⟩)
    have HG5 := Lib.hid HR3.out.2
    have HT := Lib.hid (HR3.out.take (ss.length / 2) (by omega))
    have HC := Lib.hid HR3.out.cells
    have hN := secsOk_never (ss := ss) (.slice none 0 0)
    have HN := Lib.hid hN
    clear hN
    cases hv : secsOk (ss.map Sec.d)
    · go_wp2_with (at_builtin; refine wp_secsl (by rfl) (.tmp 27) (.tmp 28) rfl w3.heap.size _ [] rfl HP0.out gb 0 cap ss rfl ?c1 ?c2 ?c3 ?c4 ?_)
      case c1 => intro j u hu; exact below_cell (bel1 _ _) (HC.out j u hu)
      case c2 => exact fun s hs => (HG5.out s hs).one
      case c3 => simp; omega
      case c4 => simp
      intro v5 w5 hown5 hgr5
      have S5 := bel_append (bel1 w3 (.cells #[] 35)) HP0.out hgr5 (Nat.le_refl _) (by simp)
      have hz5 := S5.size
      have HO5 := Lib.hid (own_len hown5 (show _ = ss.length by simp))
      clear hown5 hgr5
      go_wp2_with (at_builtin; refine wp_sec (by rfl) (.tmp 29) (.tmp 31) rfl w3.heap.size _ ss rfl (HO5.out.alloc _) w5.heap.size 0 0 none 0 0 [] rfl 35 (heap_alloc_new _ _) (by omega) ?c2 ?_)
      case c2 => simp; omega
      intro g6 cap6 w6 hown6 hgr6 hat6 hlt6
      have S6 := bel_append (S5.alloc (by omega) _) (HO5.out.alloc _) hgr6 (Nat.le_refl _) (by simp; omega)
      have HO6 := Lib.hid (own_len hown6 (show _ = (ss ++ [Sec.mk 0 0 (.slice none 0 0) []]).length by simp))
      have HR6 := Lib.hid (show RdS w6 (.slice (some ⟨g6, 0, none⟩) (ss.length + 1) cap6) (ss ++ [Sec.mk 0 0 (.slice none 0 0) []]) from
        ⟨Rd.of_own HO6.out, all_snocS (fun s hs => Rd.below (HG5.out s hs) (Nat.le_refl _) S6) (Rd.of_own (base := 0) (e := 0) ⟨rfl, .inl ⟨rfl, rfl⟩⟩)⟩)
      clear hown6 hgr6 hat6 hlt6
      have hz6 := S6.size
      go_wp2_with fail
      (go_at_call 34; (with_reducible refine (c_SectionsValid _ _ _ HR6.out).mono ?_); rintro e w7 ⟨rfl, hb7⟩; rw [HN.out])
      have S7 := S6.trans (hb7.mono hz6)
      have hz7 := S7.size
      go_wp2_with (go_at_call 25; (with_reducible refine (c_alive _).mono ?_); rintro e wq ⟨rfl, hbq⟩; have hzq := hbq.size; (try simp only [size_alloc', size_setCell', size_drew', size_drewN'] at hzq); (try (refine keep_heap (b := w.heap.size) hbq ?_ ?_; (first | omega | (simp only [size_alloc', size_setCell', size_drew', size_drewN']; omega)); intro hkq; simp only [heap_alloc_get, heap_setCell_get, heap_drew_get, heap_drewN_get, size_alloc', size_setCell', size_drew', size_drewN', nat_simp1, nat_simp2, nat_simp3, nat_simp4, nat_simp5, if_true, if_false, *] at hkq; obtain ⟨_, _⟩ := blk_facts hkq)); skip)
      go_ret
      exact ⟨rfl, S2.trans ((S7.trans (hbq.mono hz7)).mono S2.size)⟩
    · have HV := Lib.hid (secsOk_take hv (ss.length / 2))
      go_wp2_with fail
      (go_at_call 34; (with_reducible refine (c_SectionsValid _ _ _ HT.out).mono ?_); rintro e w4 ⟨rfl, hb4⟩; rw [HV.out])
      have HR4 := HR3.out.later hb4
      have S4 := S2.trans (hb4.mono S2.size)
      clear HG5 HC HT HP0
      clear S2
      have S2 := S4
      have hz4 := S2.size
      have HP0 := Lib.hid (show (w4.alloc (.cells #[] 35)).ownsRow w4.heap.size 35 3 (.slice (some ⟨w4.heap.size, 0, none⟩) 0 0) ([] : List Sec).length (secCells []) from
        ⟨rfl, .inr ⟨w4.heap.size, 0, #[], rfl, Nat.le_refl _, heap_alloc_new w4 _, Nat.le_refl _, by unfold maxLen; omega, rfl, rfl⟩⟩)
      have HG5 := Lib.hid HR4.2
      have HC := Lib.hid HR4.cells
      clear HR4
      go_wp2_with (at_builtin; refine wp_secsl (by rfl) (.tmp 27) (.tmp 28) rfl w4.heap.size _ [] rfl HP0.out gb 0 cap ss rfl ?c1 ?c2 ?c3 ?c4 ?_)
      case c1 => intro j u hu; exact below_cell (bel1 _ _) (HC.out j u hu)
      case c2 => exact fun s hs => (HG5.out s hs).one
      case c3 => simp; omega
      case c4 => simp
      intro v5 w5 hown5 hgr5
      have S5 := bel_append (bel1 w4 (.cells #[] 35)) HP0.out hgr5 (Nat.le_refl _) (by simp)
      have hz5 := S5.size
      have HO5 := Lib.hid (own_len hown5 (show _ = ss.length by simp))
      clear hown5 hgr5
      go_wp2_with (at_builtin; refine wp_sec (by rfl) (.tmp 29) (.tmp 31) rfl w4.heap.size _ ss rfl (HO5.out.alloc _) w5.heap.size 0 0 none 0 0 [] rfl 35 (heap_alloc_new _ _) (by omega) ?c2 ?_)
      case c2 => simp; omega
      intro g6 cap6 w6 hown6 hgr6 hat6 hlt6
      have S6 := bel_append (S5.alloc (by omega) _) (HO5.out.alloc _) hgr6 (Nat.le_refl _) (by simp; omega)
      have HO6 := Lib.hid (own_len hown6 (show _ = (ss ++ [Sec.mk 0 0 (.slice none 0 0) []]).length by simp))
      have HR6 := Lib.hid (show RdS w6 (.slice (some ⟨g6, 0, none⟩) (ss.length + 1) cap6) (ss ++ [Sec.mk 0 0 (.slice none 0 0) []]) from
        ⟨Rd.of_own HO6.out, all_snocS (fun s hs => Rd.below (HG5.out s hs) (Nat.le_refl _) S6) (Rd.of_own (base := 0) (e := 0) ⟨rfl, .inl ⟨rfl, rfl⟩⟩)⟩)
      clear hown6 hgr6 hat6 hlt6
      have hz6 := S6.size
      go_wp2_with fail
      (go_at_call 34; (with_reducible refine (c_SectionsValid _ _ _ HR6.out).mono ?_); rintro e w7 ⟨rfl, hb7⟩; rw [HN.out])
      have S7 := S6.trans (hb7.mono hz6)
      have hz7 := S7.size
      go_wp2_with (go_at_call 25; (with_reducible refine (c_alive _).mono ?_); rintro e wq ⟨rfl, hbq⟩; have hzq := hbq.size; (try simp only [size_alloc', size_setCell', size_drew', size_drewN'] at hzq); (try (refine keep_heap (b := w.heap.size) hbq ?_ ?_; (first | omega | (simp only [size_alloc', size_setCell', size_drew', size_drewN']; omega)); intro hkq; simp only [heap_alloc_get, heap_setCell_get, heap_drew_get, heap_drewN_get, size_alloc', size_setCell', size_drew', size_drewN', nat_simp1, nat_simp2, nat_simp3, nat_simp4, nat_simp5, if_true, if_false, *] at hkq; obtain ⟨_, _⟩ := blk_facts hkq)); skip)
      go_ret
      exact ⟨rfl, S2.trans ((S7.trans (hbq.mono hz7)).mono S2.size)⟩
  · go_enter Try.func9, Try.ntmps9
    go_wp2_with fail
    go_ret
    exact ⟨rfl, Below.refl _ _⟩
end Go.Proofs.Ytpngjofplbnkjaa
