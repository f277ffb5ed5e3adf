/- ProgressionFault and CadenceOf: what is drawn, and the walks of their laws. Conditions: none beyond the laws' own. -/
import Derived.Test.YtpngjofplbnkjaaE0
import Derived.Test.YtpngjofplbnkjaaI2
import Derived.Test.YtpngjofplbnkjaaI3
namespace Go.Proofs.Ytpngjofplbnkjaa
open Go.RowKit
set_option linter.unusedSimpArgs false
set_option linter.unusedVariables false
set_option maxHeartbeats 4000000

theorem progGo_spec (l : List Int) : ∀ n k, (progGo l n k = -1 ∧ ∀ i, k ≤ i → i < k + n → badAt l i = false) ∨
    (∃ j, k ≤ j ∧ j < k + n ∧ progGo l n k = (j : Int) ∧ badAt l j = true ∧ ∀ i, k ≤ i → i < j → badAt l i = false) := by
  intro n
  induction n with
  | zero => intro k; exact .inl ⟨rfl, fun i h1 h2 => by omega⟩
  | succ n ih =>
    intro k
    by_cases hb : badAt l k = true
    · exact .inr ⟨k, Nat.le_refl _, by omega, by show (if _ then _ else _) = _; rw [if_pos hb], hb, fun i h1 h2 => by omega⟩
    · have hb' : badAt l k = false := by simpa using hb
      have he : progGo l (n + 1) k = progGo l n (k + 1) := by show (if _ then _ else _) = _; rw [if_neg hb]
      rcases ih (k + 1) with ⟨h1, h2⟩ | ⟨j, h1, h2, h3, h4, h5⟩
      · exact .inl ⟨he.trans h1, fun i g1 g2 => by
          by_cases hik : i = k
          · rw [hik]; exact hb'
          · exact h2 i (by omega) (by omega)⟩
      · exact .inr ⟨j, by omega, by omega, he.trans h3, h4, fun i g1 g2 => by
          by_cases hik : i = k
          · rw [hik]; exact hb'
          · exact h5 i (by omega) (by omega)⟩
theorem progGo_none (l : List Int) : ∀ n k, (∀ i, k ≤ i → i < k + n → badAt l i = false) → progGo l n k = -1 := by
  intro n k h
  rcases progGo_spec l n k with h1 | ⟨j, h1, h2, _, h4, _⟩
  · exact h1.1
  · rw [h j h1 h2] at h4; cases h4
theorem prog_law (l : List Int) : progF l = -1 ∨ ∃ (j : Nat) (h : j + 1 < l.length), progF l = (j : Int) + 1 ∧ progF (l.take (j + 1)) = -1 ∧ progF [l[j]'(by omega), l[j + 1]] = 1 := by
  by_cases ha : ∀ i (h : i < l.length), inB l[i] 0 6 = true
  · have hp := prog_ok l ha
    rcases progGo_spec l (l.length - (0 + 1)) (0 + 1) with ⟨h1, _⟩ | ⟨j, h1, h2, h3, h4, h5⟩
    · exact .inl (hp.trans h1)
    · right
      obtain ⟨j, rfl⟩ : ∃ i, j = i + 1 := ⟨j - 1, by omega⟩
      have hj : j + 1 < l.length := by omega
      refine ⟨j, hj, hp.trans (by rw [h3]; simp), ?_, ?_⟩
      · unfold progF
        rw [if_pos]
        · refine progGo_none _ _ _ fun i g1 g2 => ?_
          rw [List.length_take] at g2
          have := h5 i (by omega) (by omega)
          unfold badAt at this ⊢
          rw [List.getElem?_take_of_lt (by omega), List.getElem?_take_of_lt (by omega)]
          exact this
        · intro i h
          rw [List.getElem_take]
          exact ha i (by rw [List.length_take] at h; omega)
      · have hb : badP (l[j]'(by omega)) l[j + 1] = true := by
          unfold badAt at h4
          rw [Nat.add_sub_cancel, List.getElem?_eq_getElem (show j < l.length by omega), List.getElem?_eq_getElem hj] at h4
          exact h4
        have b1 := ha j (by omega)
        have b2 := ha (j + 1) hj
        generalize l[j]'_ = x at *
        generalize l[j + 1]'_ = y at *
        unfold progF
        rw [if_pos]
        · show (if badAt [x, y] 1 = true then _ else _) = _
          rw [show badAt [x, y] 1 = badP x y from rfl, if_pos hb]; rfl
        · intro i h
          match i, h with
          | 0, _ => exact b1
          | 1, _ => exact b2
  · left
    unfold progF
    rw [if_neg ha]
theorem rd_sub {w : World} {b off m c' : Nat} {l : List Int} (lo : Nat) (hcc : ∀ j u, (intCells l)[j]? = some u → w.cell? ⟨b, off + j, none⟩ = some u) (hm : lo + m ≤ l.length) (hc : m ≤ c') (hc' : c' ≤ maxLen) :
    Rd w (.slice (some ⟨b, off + lo, none⟩) m c') 1 m (intCells ((l.drop lo).take m)) := by
  refine ⟨?_, _, c', rfl, hc, hc', fun _ => ⟨b, off + lo, rfl, fun j u hu => ?_⟩⟩
  · rw [intCells_map, List.length_map, List.length_take, List.length_drop]; omega
  · rw [Nat.add_assoc]
    refine hcc (lo + j) u ?_
    rw [intCells_map] at hu ⊢
    rw [List.getElem?_map] at hu ⊢
    rw [← hu, List.getElem?_take_of_lt, List.getElem?_drop]
    rcases Nat.lt_or_ge j m with h | h
    · exact h
    · rw [List.getElem?_eq_none (by rw [List.length_take]; omega)] at hu; simp at hu
def DInts (w : World) (e : Ending) (w' : World) : Prop :=
  ∃ v l, e = .returned v ∧ Rd w' v 1 (l : List Int).length (intCells l) ∧ l.length ≤ 9 ∧ (∀ a ∈ l, I64 a) ∧ Below w.heap.size w w'
theorem c_DrawProgressionFault (v : Value) (bs : List Int) (w : World) (h : Rd w v 1 bs.length (byteCells bs)) (hb : ∀ x ∈ bs, 0 ≤ x ∧ x ≤ 255) :
    Calls Try.prog 24 #[v] w (DInts w) := by
  go_enter Try.func24, Try.ntmps24
  go_wp2_with fail
  (go_at_call 60; (with_reducible refine (c_open _ _ _ (h) hb).mono ?_); rintro e w1 ⟨g, rfl, hg, hr1, hbq⟩; have hzq := hbq.size; (try simp only [size_alloc', size_setCell', size_drew', size_drewN'] at hzq hg); (try (refine keep_heap (b := w.heap.size) hbq ?_ ?_; (first | omega | (simp only [size_alloc', size_setCell', size_drew', size_drewN']; omega)); intro hkq; simp only [heap_alloc_get, heap_setCell_get, heap_drew_get, heap_drewN_get, size_alloc', size_setCell', size_drew', size_drewN', nat_simp1, nat_simp2, nat_simp3, nat_simp4, nat_simp5, if_true, if_false, *] at hkq; obtain ⟨_, _⟩ := blk_facts hkq)); (try (refine ne_cps (a := w.heap.size) (b := w1.heap.size) ?_ ?_; omega; intro _ _)); (try (refine ne_cps (a := w.heap.size) (b := w1.heap.size + 1) ?_ ?_; omega; intro _ _)); (try (refine ne_cps (a := w.heap.size) (b := w1.heap.size + 1 + 1) ?_ ?_; omega; intro _ _)); skip)
  have hr2 := hr1.mono (m' := 0 + 18) (by omega)
  clear hr1
  go_wp2_with fail
  (go_at_call 59; (with_reducible refine (c_l20Degrees g 0 _ ?_).mono ?_); (focus (repeat' (first | (with_reducible assumption) | (with_reducible refine Rdr.alloc ?_ _) | (with_reducible refine Rdr.setCell ?_ ?_ _) | (with_reducible refine Rdr.drewN ?_ _) | (with_reducible refine Rdr.drew ?_) | (show _ < _; first | omega | (simp only [size_alloc', size_setCell', size_drew', size_drewN'] at *; omega))))); rintro e w2 ⟨v2, l, rfl, hown, hl9, hli, hrq, hgq⟩; have hsq := hgq.size; (try simp only [size_alloc', size_setCell', size_drew', size_drewN'] at hsq); skip)
  go_wp2_with fail
  go_ret
  exact ⟨_, l, rfl, Rd.of_own hown, hl9, hli, below_of_kp hbq hgq hg (by omega)⟩
theorem c_DrawCadenceOf (v : Value) (bs : List Int) (w : World) (h : Rd w v 1 bs.length (byteCells bs)) (hb : ∀ x ∈ bs, 0 ≤ x ∧ x ≤ 255) :
    Calls Try.prog 26 #[v] w (DInts w) := by
  go_enter Try.func26, Try.ntmps26
  go_wp2_with fail
  (go_at_call 60; (with_reducible refine (c_open _ _ _ (h) hb).mono ?_); rintro e w1 ⟨g, rfl, hg, hr1, hbq⟩; have hzq := hbq.size; (try simp only [size_alloc', size_setCell', size_drew', size_drewN'] at hzq hg); (try (refine keep_heap (b := w.heap.size) hbq ?_ ?_; (first | omega | (simp only [size_alloc', size_setCell', size_drew', size_drewN']; omega)); intro hkq; simp only [heap_alloc_get, heap_setCell_get, heap_drew_get, heap_drewN_get, size_alloc', size_setCell', size_drew', size_drewN', nat_simp1, nat_simp2, nat_simp3, nat_simp4, nat_simp5, if_true, if_false, *] at hkq; obtain ⟨_, _⟩ := blk_facts hkq)); (try (refine ne_cps (a := w.heap.size) (b := w1.heap.size) ?_ ?_; omega; intro _ _)); (try (refine ne_cps (a := w.heap.size) (b := w1.heap.size + 1) ?_ ?_; omega; intro _ _)); (try (refine ne_cps (a := w.heap.size) (b := w1.heap.size + 1 + 1) ?_ ?_; omega; intro _ _)); skip)
  have hr2 := hr1.mono (m' := 0 + 18) (by omega)
  clear hr1
  go_wp2_with fail
  (go_at_call 59; (with_reducible refine (c_l20Degrees g 0 _ ?_).mono ?_); (focus (repeat' (first | (with_reducible assumption) | (with_reducible refine Rdr.alloc ?_ _) | (with_reducible refine Rdr.setCell ?_ ?_ _) | (with_reducible refine Rdr.drewN ?_ _) | (with_reducible refine Rdr.drew ?_) | (show _ < _; first | omega | (simp only [size_alloc', size_setCell', size_drew', size_drewN'] at *; omega))))); rintro e w2 ⟨v2, l, rfl, hown, hl9, hli, hrq, hgq⟩; have hsq := hgq.size; (try simp only [size_alloc', size_setCell', size_drew', size_drewN'] at hsq); skip)
  go_wp2_with fail
  go_ret
  exact ⟨_, l, rfl, Rd.of_own hown, hl9, hli, below_of_kp hbq hgq hg (by omega)⟩
theorem walk_FnProgressionFault (w : World) (v : Value) (bs : List Int) (h : Rd w v 1 bs.length (byteCells bs)) (hb : ∀ x ∈ bs, 0 ≤ x ∧ x ≤ 255) :
    Calls Try.prog 5 #[v] w fun e w' => e = .returned (.bool true) ∧ Below w.heap.size w w' := by
  have h' := Lib.hid h
  obtain ⟨_, A, c, rfl, hnc, hcm, hA⟩ := h
  unfold maxLen at hcm
  clear hA
  by_cases hlen : bs.length ≤ 1048576
  · go_enter Try.func5, Try.ntmps5
    go_wp2_with fail
    (go_at_call 24; (with_reducible refine (c_DrawProgressionFault _ bs _ h'.out hb).mono ?_); rintro e w1 ⟨v1, l, rfl, hr1, hl9, hli, S2⟩)
    have hz1 := S2.size
    go_wp2_with fail
    (go_at_call 20; (with_reducible refine (c_ProgressionFault _ l _ hr1).mono ?_); rintro e w2 ⟨rfl, hb2⟩; have S2 := (S2.trans (hb2.mono S2.size)))
    have hr2 := hr1.below (Nat.le_refl _) hb2
    rcases prog_law l with hp | ⟨j, hj, hp, hp1, hp2⟩
    · rw [hp]
      go_wp2_with fail
      (go_at_call 18; (with_reducible refine (c_sProgressionFault _ l _ hr2).mono ?_); rintro e w3 ⟨rfl, hb3⟩; rw [hp]; have S3 := S2.trans (hb3.mono S2.size))
      have hz3 := S3.size
      go_wp2_with (go_at_call 25; (with_reducible refine (c_alive _).mono ?_); rintro e wq ⟨rfl, hbq⟩; have hzq := hbq.size; (try simp only [size_alloc', size_setCell', size_drew', size_drewN'] at hzq); (try (refine keep_heap (b := w.heap.size) hbq ?_ ?_; (first | omega | (simp only [size_alloc', size_setCell', size_drew', size_drewN']; omega)); intro hkq; simp only [heap_alloc_get, heap_setCell_get, heap_drew_get, heap_drewN_get, size_alloc', size_setCell', size_drew', size_drewN', nat_simp1, nat_simp2, nat_simp3, nat_simp4, nat_simp5, if_true, if_false, *] at hkq; obtain ⟨_, _⟩ := blk_facts hkq)); skip)
      go_ret
      exact ⟨rfl, S3.trans (hbq.mono hz3)⟩
    · rw [hp]
      go_wp2_with fail
      (go_at_call 18; (with_reducible refine (c_sProgressionFault _ l _ hr2).mono ?_); rintro e w3 ⟨rfl, hb3⟩; rw [hp]; have S3 := S2.trans (hb3.mono S2.size))
      have hz3 := S3.size
      have hr3 := hr2.below (Nat.le_refl _) hb3
      obtain ⟨_, A1, c1, rfl, hnc1, hcm1, hA1⟩ := hr3
      obtain ⟨b, off, rfl, hcc⟩ := hA1 (by omega)
      clear hA1
      unfold maxLen at hcm1
      have hcc' := Lib.hid hcc
      clear hcc
      have hlc : (l.length : Int) ≤ (c1 : Int) := by omega
      have hj1 : (j : Int) + 1 < (l.length : Int) := by omega
      have hj2 : (j : Int) + 1 ≤ (c1 : Int) := by omega
      have hj3 : (j : Int) + 1 + 1 ≤ (c1 : Int) := by omega
      have S2 := S3
      have e1 : (l.take (j + 1)).length = j + 1 := by rw [List.length_take]; omega
      have e2 : (l.drop j).take 2 = [l[j]'(by omega), l[j + 1]] := by
        rw [List.drop_eq_getElem_cons (show j < l.length by omega), List.drop_eq_getElem_cons hj]; rfl
      have hs1 : Rd w3 (.slice (some ⟨b, off, none⟩) (j + 1) c1) 1 (l.take (j + 1)).length (intCells (l.take (j + 1))) := by
        rw [e1]; exact rd_sub 0 hcc'.out (by omega) (by omega) (by unfold maxLen; omega)
      have hs2 : Rd w3 (.slice (some ⟨b, off + j, none⟩) (j + 1 + 1 - j) (c1 - j)) 1 [l[j]'(by omega), l[j + 1]].length (intCells [l[j]'(by omega), l[j + 1]]) := by
        rw [show j + 1 + 1 - j = 2 by omega, ← e2, show ((l.drop j).take 2).length = 2 by rw [List.length_take, List.length_drop]; omega]; exact rd_sub j hcc'.out (by omega) (by omega) (by unfold maxLen; omega)
      go_wp2_with fail
      (go_at_call 20; (with_reducible refine (c_ProgressionFault _ _ _ hs1).mono ?_); rintro e w4 ⟨rfl, hb4⟩; have S2 := (S2.trans (hb4.mono S2.size)))
      rw [hp1]
      have hs3 := hs2.below (Nat.le_refl _) hb4
      go_wp2_with fail
      (go_at_call 20; (with_reducible refine (c_ProgressionFault _ _ _ hs3).mono ?_); rintro e w5 ⟨rfl, hb5⟩; have S2 := (S2.trans (hb5.mono S2.size)))
      rw [hp2]
      go_wp2_with fail
      go_ret
      exact ⟨rfl, S2⟩
  · go_enter Try.func5, Try.ntmps5
    go_wp2_with fail
    go_ret
    exact ⟨rfl, Below.refl _ _⟩
theorem cadP_bd (a b : Int) : 0 ≤ cadP a b ∧ cadP a b ≤ 4 := by unfold cadP; split <;> (try split) <;> (try split) <;> (try split) <;> omega
theorem walk_FnCadenceOf (w : World) (v : Value) (bs : List Int) (h : Rd w v 1 bs.length (byteCells bs)) (hb : ∀ x ∈ bs, 0 ≤ x ∧ x ≤ 255) :
    Calls Try.prog 6 #[v] w fun e w' => e = .returned (.bool true) ∧ Below w.heap.size w w' := by
  have h' := Lib.hid h
  obtain ⟨_, A, c, rfl, hnc, hcm, hA⟩ := h
  unfold maxLen at hcm
  clear hA
  by_cases hlen : bs.length ≤ 1048576
  · go_enter Try.func6, Try.ntmps6
    go_wp2_with fail
    (go_at_call 26; (with_reducible refine (c_DrawCadenceOf _ bs _ h'.out hb).mono ?_); rintro e w1 ⟨v1, l, rfl, hr1, hl9, hli, S2⟩)
    have hz1 := S2.size
    go_wp2_with fail
    (go_at_call 23; (with_reducible refine (c_CadenceOf _ l _ hr1).mono ?_); rintro e w2 ⟨rfl, hb2⟩; have S2 := (S2.trans (hb2.mono S2.size)))
    have hr2 := hr1.below (Nat.le_refl _) hb2
    go_wp2_with fail
    (go_at_call 22; (with_reducible refine (c_sCadenceOf _ l _ hr2).mono ?_); rintro e w3 ⟨rfl, hb3⟩; have S2 := (S2.trans (hb3.mono S2.size)))
    have hr3 := hr2.below (Nat.le_refl _) hb3
    have hz3 := S2.size
    by_cases hs : l.length < 2
    · obtain ⟨_, A1, c1, rfl, hnc1, hcm1, hA1⟩ := hr3
      clear hA1
      unfold maxLen at hcm1
      rw [cad_short l hs]
      go_wp2_with (go_at_call 25; (with_reducible refine (c_alive _).mono ?_); rintro e wq ⟨rfl, hbq⟩; have hzq := hbq.size; (try simp only [size_alloc', size_setCell', size_drew', size_drewN'] at hzq); (try (refine keep_heap (b := w.heap.size) hbq ?_ ?_; (first | omega | (simp only [size_alloc', size_setCell', size_drew', size_drewN']; omega)); intro hkq; simp only [heap_alloc_get, heap_setCell_get, heap_drew_get, heap_drewN_get, size_alloc', size_setCell', size_drew', size_drewN', nat_simp1, nat_simp2, nat_simp3, nat_simp4, nat_simp5, if_true, if_false, *] at hkq; obtain ⟨_, _⟩ := blk_facts hkq)); skip)
      go_ret
      exact ⟨rfl, S2.trans (hbq.mono hz3)⟩
    · obtain ⟨m, hm⟩ : ∃ m, l.length = m + 2 := ⟨l.length - 2, by omega⟩
      have hb5 := cadP_bd (l[m]'(by omega)) (l[m + 1]'(by omega))
      rw [← cad_at l m hm] at hb5
      have HE := Lib.hid (show cadF ((l.drop m).take 2) = cadF l by
        rw [cad_at l m hm, cad_at _ 0 (by simp; omega)]
        simp)
      obtain ⟨_, A1, c1, rfl, hnc1, hcm1, hA1⟩ := hr3
      obtain ⟨b, off, rfl, hcc⟩ := hA1 (by omega)
      clear hA1
      unfold maxLen at hcm1
      have hcc' := Lib.hid hcc
      clear hcc
      have hi1 : ((l.length : Nat) : Int) - 2 = (m : Int) := by omega
      have e1 : ((l.drop m).take 2).length = 2 := by rw [List.length_take, List.length_drop]; omega
      have hs1 : Rd w3 (.slice (some ⟨b, off + m, none⟩) 2 (c1 - m)) 1 ((l.drop m).take 2).length (intCells ((l.drop m).take 2)) := by
        rw [e1]; exact rd_sub m hcc'.out (by omega) (by omega) (by unfold maxLen; omega)
      generalize cadF l = cd at *
      go_wp2_with fail
      (go_at_call 23; (with_reducible refine (c_CadenceOf _ _ _ hs1).mono ?_); rintro e w4 ⟨rfl, hb4⟩; have S2 := (S2.trans (hb4.mono S2.size)))
      rw [HE.out]
      go_wp2_with fail
      go_ret
      exact ⟨rfl, S2⟩
  · go_enter Try.func6, Try.ntmps6
    go_wp2_with fail
    go_ret
    exact ⟨rfl, Below.refl _ _⟩
end Go.Proofs.Ytpngjofplbnkjaa
