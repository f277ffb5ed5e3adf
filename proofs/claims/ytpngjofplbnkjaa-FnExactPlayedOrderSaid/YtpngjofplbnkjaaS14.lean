/- Joining lists of sections: plain; sameInts; the walk of FnSectionsJoin. Conditions: none beyond the law's own. -/
import Derived.Test.YtpngjofplbnkjaaS13
namespace Go.Proofs.Ytpngjofplbnkjaa
open Go.RowKit
set_option linter.unusedSimpArgs false
set_option linter.unusedVariables false
set_option maxHeartbeats 8000000

theorem c_sameInts (u v : Value) (la lb : List Int) (w : World) (ha : Rd w u 1 la.length (intCells la)) (hb : Rd w v 1 lb.length (intCells lb)) :
    Calls Try.prog 44 #[u, v] w fun e w' => e = .returned (.bool (decide (la = lb))) ∧ Below w.heap.size w w' := by
  obtain ⟨_, A1, c1, rfl, hn1, hm1, hA1⟩ := ha
  obtain ⟨_, A2, c2, rfl, hn2, hm2, hA2⟩ := hb
  unfold maxLen at hm1 hm2
  by_cases hl : la.length = lb.length
  · have hl' := Lib.hid hl
    have hle : la.length ≤ lb.length := by omega
    have hle' : lb.length ≤ la.length := by omega
    have hln : ((la.length : Int) != (lb.length : Int)) = false := by simp; omega
    clear hl
    go_enter Try.func44, Try.ntmps44
    go_wp2
    go_loopw [5] (fun i wr => ∃ k : Nat, k ≤ la.length ∧ i = .int .i64 k ∧ Below w.heap.size w wr ∧ ∀ i (h1 : i < la.length) (h2 : i < lb.length), i < k → la[i] = lb[i]) (fun i _ => la.length - (intOf i).toNat)
    case atStart => exact ⟨0, Nat.zero_le _, rfl, Below.refl _ _, fun i _ _ hi => absurd hi (by omega)⟩
    case round =>
      obtain ⟨k, hk, rfl, hbl, hok⟩ := hrel
      have HOK := Lib.hid hok
      clear hok
      by_cases hlt : k < la.length
      · have hlt2 : k < lb.length := by omega
        obtain ⟨b1, f1, rfl, hc1⟩ := hA1 (by omega)
        obtain ⟨b2, f2, rfl, hc2⟩ := hA2 (by omega)
        have p0 := int_at (rd_later hbl hc1) k hlt
        have q0 := int_at (rd_later hbl hc2) k hlt2
        have HE := Lib.hid (show la[k] ≠ lb[k] → decide (la = lb) = false by
          intro hne; simp only [decide_eq_false_iff_not]; intro e; subst e; exact hne rfl)
        have HS := Lib.hid (show la[k] = lb[k] → ∀ i (h1 : i < la.length) (h2 : i < lb.length), i < k + 1 → la[i] = lb[i] by
          intro he i h1 h2 hi
          rcases Nat.lt_succ_iff_lt_or_eq.1 hi with h3 | rfl
          · exact HOK.out i h1 h2 h3
          · exact he)
        have hi1 : (0 : Int) ≤ (k : Int) := by omega
        have hi2 : (k : Int) < (la.length : Int) := by omega
        have hi3 : (k : Int) < (lb.length : Int) := by omega
        generalize la[k] = x at *
        generalize lb[k] = y at *
        clear hA1 hA2 hc1 hc2
        by_cases hxy : x = y
        · have HF := Lib.hid (HS.out hxy)
          subst hxy
          go_wp2_with fail
          go_quiet (fail)
          go_wp2
          go_roundw
          case rel => exact ⟨k + 1, by omega, by go_num, by (repeat' (first | (with_reducible exact Below.refl _ _) | (with_reducible refine Below.setCell ?_ ?_ _) | (with_reducible refine Below.alloc ?_ ?_ _) | (with_reducible refine Below.drew ?_) | (with_reducible refine below_drewN ?_ _) | (with_reducible refine Below.trans ?_ (Below.mono (by with_reducible assumption) ?_)) | omega | (simp only [size_alloc', size_setCell', size_drew', size_drewN'] at *; omega))), HF.out⟩
          case measure => simp [intOf]; omega
        · have HF := Lib.hid (HE.out hxy)
          have hb : (x != y) = true := by simpa using hxy
          go_wp2_with fail
          go_quiet (fail)
          go_wp2
          go_ret
          exact ⟨ret_bool HF.out.symm, by (repeat' (first | (with_reducible exact Below.refl _ _) | (with_reducible refine Below.setCell ?_ ?_ _) | (with_reducible refine Below.alloc ?_ ?_ _) | (with_reducible refine Below.drew ?_) | (with_reducible refine below_drewN ?_ _) | (with_reducible refine Below.trans ?_ (Below.mono (by with_reducible assumption) ?_)) | omega | (simp only [size_alloc', size_setCell', size_drew', size_drewN'] at *; omega)))⟩
      · clear hA1 hA2
        go_wp2
        go_ret
        exact ⟨ret_bool (by symm; simp only [decide_eq_true_eq]; exact List.ext_getElem hl'.out (fun i h1 h2 => HOK.out i h1 h2 (by omega))), hbl⟩
  · have hln : ((la.length : Int) != (lb.length : Int)) = true := by simp; omega
    clear hA1 hA2
    go_enter Try.func44, Try.ntmps44
    go_wp2
    go_ret
    exact ⟨ret_bool (by symm; simp only [decide_eq_false_iff_not]; intro e; exact hl (by rw [e])), Below.refl _ _⟩
theorem c_sameInts_eq (u v : Value) (l : List Int) (w : World) (ha : Rd w u 1 l.length (intCells l)) (hb : Rd w v 1 l.length (intCells l)) :
    Calls Try.prog 44 #[u, v] w fun e w' => e = .returned (.bool true) ∧ Below w.heap.size w w' := by
  have h := c_sameInts u v l l w ha hb
  rwa [decide_eq_true (rfl : l = l)] at h
theorem runL_shift (a c : Int) (n : Nat) : runL (a + c) n = (runL a n).map (· + c) := by
  unfold runL
  rw [List.map_map]
  apply List.map_congr_left
  intro i _
  show a + c + (i : Int) = a + (i : Int) + c
  omega
theorem endL_shift (F c : Int) (s : SD) (t : Nat) : endL (F + c) s t = (endL F s t).map (· + c) := by
  unfold endL
  cases s.l[t]? with
  | none => rfl
  | some x =>
    dsimp only
    rw [← runL_shift]
    congr 1
    omega
theorem timesL_shift (F c : Int) (s : SD) : ∀ t, timesL (F + c) s t = (timesL F s t).map (· + c) := by
  intro t
  induction t with
  | zero => rfl
  | succ t ih => rw [timesL_succ, timesL_succ, ih, runL_shift, endL_shift, List.map_append, List.map_append]
theorem writtenS_app (a b : List SD) : writtenS (a ++ b) = writtenS a + writtenS b := by simp [writtenS]
theorem playedUp_left (a b : List SD) : ∀ k, k ≤ a.length → playedUp (a ++ b) k = playedUp a k := by
  intro k
  induction k with
  | zero => intro _; rfl
  | succ k ih =>
    intro hk
    rw [playedUp_succ (s := a[k]) (by rw [List.getElem?_append_left (by omega)]; exact List.getElem?_eq_getElem (by omega)), playedUp_succ (s := a[k]) (List.getElem?_eq_getElem (by omega)), ih (by omega), List.take_append_of_le_length (by omega)]
theorem playedUp_join (a b : List SD) : ∀ k, k ≤ b.length → playedUp (a ++ b) (a.length + k) = playedUp a a.length ++ (playedUp b k).map (· + writtenS a) := by
  intro k
  induction k with
  | zero => intro _; rw [Nat.add_zero, playedUp_left a b _ (Nat.le_refl _)]; simp [playedUp]
  | succ k ih =>
    intro hk
    have hlt : k < b.length := by omega
    rw [show a.length + (k + 1) = a.length + k + 1 from rfl, playedUp_succ (s := b[k]) (by rw [List.getElem?_append_right (by omega), Nat.add_sub_cancel_left]; exact List.getElem?_eq_getElem hlt), ih (by omega),
      playedUp_succ (s := b[k]) (List.getElem?_eq_getElem hlt), List.map_append, List.append_assoc]
    congr 2
    rw [List.take_append, Nat.add_sub_cancel_left, List.take_of_length_le (show a.length ≤ a.length + k by omega), writtenS_app, Int.add_comm, timesL_shift]
theorem secsOk_app {a b : List SD} (h : secsOk (a ++ b) = true) : secsOk a = true ∧ secsOk b = true := by
  unfold secsOk at *
  simp only [List.length_append, List.all_append, Bool.and_eq_true, decide_eq_true_eq] at *
  exact ⟨⟨by omega, h.2.1⟩, ⟨by omega, h.2.2⟩⟩
theorem played_join {a b : List SD} (h : secsOk (a ++ b) = true) : playedB (a ++ b) = playedB a ++ (playedB b).map (· + writtenS a) ∧ writtenB (a ++ b) = writtenB a + writtenB b ∧ writtenB a = writtenS a := by
  obtain ⟨h1, h2⟩ := secsOk_app h
  unfold playedB writtenB
  rw [if_pos h, if_pos h1, if_pos h2, if_pos h, if_pos h1, if_pos h2, List.length_append, playedUp_join a b b.length (Nat.le_refl _), writtenS_app]
  exact ⟨rfl, rfl, rfl⟩
/-- PlayedOrder at whatever sections: a slice of the call's own. -/
def OrderAny (xs : List Int) (ok : Bool) (w : World) (e : Ending) (w' : World) : Prop :=
  ∃ v, e = .returned v ∧ Rd w' v 1 xs.length (intCells xs) ∧ xs.length ≤ 4000 ∧ (ok = true → ∃ g cap, v = .slice (some ⟨g, 0, none⟩) xs.length cap) ∧ Below w.heap.size w w'
theorem OrderMade.any {xs : List Int} {ok : Bool} {w : World} {e : Ending} {w' : World} (h : OrderMade xs w e w') : OrderAny xs ok w e w' := by
  obtain ⟨g, n, cap, he, ho, hn, hb⟩ := h
  have hl : n = xs.length := by have := ho.1; rw [intCells_lenA] at this; omega
  subst hl
  exact ⟨_, he, Rd.of_own ho, hn, fun _ => ⟨_, _, rfl⟩, hb⟩
theorem playedB_no {ds : List SD} (h : secsOk ds = false) : playedB ds = [] := by unfold playedB; rw [h]; rfl
theorem rd_cells {w : World} {b n c size : Nat} {xs : List Value} (h : Rd w (.slice (some ⟨b, 0, none⟩) n c) size n xs) : ∀ j u, xs[j]? = some u → w.cell? ⟨b, 0 + j, none⟩ = some u := by
  obtain ⟨h1, A, c', he, h2, h3, h4⟩ := h
  cases he
  intro j u hu
  have hj := (List.getElem?_eq_some_iff.1 hu).1
  obtain ⟨b', off, hb, hc⟩ := h4 (by
    rcases Nat.eq_zero_or_pos n with hn | hn
    · subst hn; rw [h1] at hj; omega
    · exact hn)
  cases hb
  exact hc j u hu
theorem c_PlayedOrder_any (v : Value) (ss : List Sec) (w : World) (h : RdS w v ss) : Calls Try.prog 42 #[v] w (OrderAny (playedB (ss.map Sec.d)) (secsOk (ss.map Sec.d)) w) := by
  cases hv : secsOk (ss.map Sec.d)
  · refine (c_PlayedOrder_no v ss w h hv).mono fun e w' ⟨he, hb⟩ => ⟨_, he, ?_, ?_, by simp, hb⟩
    · rw [playedB_no hv]; exact ⟨rfl, none, 0, rfl, Nat.le_refl _, by simp [maxLen], fun h0 => absurd h0 (by simp)⟩
    · rw [playedB_no hv]; simp
  · exact (c_PlayedOrder v ss w h hv).mono fun e w' hh => hh.any
theorem c_sPlayedOrder_any (v : Value) (ss : List Sec) (w : World) (h : RdS w v ss) : Calls Try.prog 45 #[v] w (OrderAny (playedB (ss.map Sec.d)) (secsOk (ss.map Sec.d)) w) := by
  cases hv : secsOk (ss.map Sec.d)
  · refine (c_sPlayedOrder_no v ss w h hv).mono fun e w' hh => ?_
    rw [playedB_no hv]; exact hh.any
  · exact (c_sPlayedOrder v ss w h hv).mono fun e w' hh => hh.any
theorem secs_one {ss : List Sec} (h : ∀ s ∈ ss, s.v.oneCell' = true) : ∀ u ∈ secCells ss, u.oneCell' = true := by
  intro u hu
  obtain ⟨s, hs, hu⟩ := List.mem_flatMap.1 hu
  simp [Sec.cells] at hu
  rcases hu with rfl | rfl | rfl
  · rfl
  · rfl
  · exact h s hs
theorem walk_FnSectionsJoin (w : World) (v : Value) (bs : List Int) (h : Rd w v 1 bs.length (byteCells bs)) (hb : ∀ x ∈ bs, 0 ≤ x ∧ x ≤ 255) (v' : Value) (bs' : List Int) (h2 : Rd w v' 1 bs'.length (byteCells bs')) (hb2 : ∀ x ∈ bs', 0 ≤ x ∧ x ≤ 255) :
    Calls Try.prog 15 #[v, v'] w fun e w' => e = .returned (.bool true) ∧ Below w.heap.size w w' := by
  have H1 := Lib.hid h
  have H2 := Lib.hid h2
  have HB1 := Lib.hid hb
  have HB2 := Lib.hid hb2
  obtain ⟨_, A, c, rfl, hnc, hcm, -⟩ := h
  obtain ⟨_, A', c', rfl, hnc', hcm', -⟩ := h2
  unfold maxLen at hcm hcm'
  clear hb hb2
  by_cases hlen : bs.length ≤ 1048576
  · by_cases hlen' : bs'.length ≤ 1048576
    · go_enter Try.func15, Try.ntmps15
      go_wp2_with fail
      (go_at_call 43; (with_reducible refine (c_DrawPlayedOrder _ bs _ H1.out HB1.out).mono ?_); rintro e w1 ⟨v1, ss, rfl, hso, hl9, hl8, S2⟩)
      have hz1 := S2.size
      obtain ⟨⟨ga, ca, rfl⟩, -⟩ := id hso
      have HA1 := Lib.hid hso.rd
      clear hso
      go_wp2_with fail
      (go_at_call 43; (with_reducible refine (c_DrawPlayedOrder _ bs' _ (H2.out.below (Nat.le_refl _) S2) HB2.out).mono ?_); rintro e w2 ⟨v2, ts, rfl, hso, hm9, hm8, hbb⟩; have S2 := S2.trans (hbb.mono S2.size))
      obtain ⟨⟨gb, cb, rfl⟩, -⟩ := id hso
      have HA2 := Lib.hid (HA1.out.later hbb)
      have HBb2 := Lib.hid hso.rd
      clear hso hbb
      go_wp2_with fail
      (go_at_call 42; (with_reducible refine (c_PlayedOrder_any _ ss _ HA2.out).mono ?_); rintro e w3 ⟨vx, rfl, hx3, hxl, hxf, hb3⟩; have S2 := (S2.trans (hb3.mono S2.size)))
      have HA3 := Lib.hid (HA2.out.later hb3)
      have HBb3 := Lib.hid (HBb2.out.later hb3)
      have HX3 := Lib.hid hx3
      have HXF := Lib.hid hxf
      clear hx3 hxf
      go_wp2_with fail
      (go_at_call 45; (with_reducible refine (c_sPlayedOrder_any _ ss _ HA3.out).mono ?_); rintro e w4 ⟨vy, rfl, hy4, hyl, -, hb4⟩; have S2 := (S2.trans (hb4.mono S2.size)))
      have HA4 := Lib.hid (HA3.out.later hb4)
      have HBb4 := Lib.hid (HBb3.out.later hb4)
      have HX4 := Lib.hid (HX3.out.below (Nat.le_refl _) hb4)
      have HY4 := Lib.hid hy4
      clear hy4
      go_wp2_with fail
      (go_at_call 44; (with_reducible refine (c_sameInts_eq _ _ _ _ HX4.out HY4.out).mono ?_); rintro e w5 ⟨rfl, hb5⟩; have S2 := (S2.trans (hb5.mono S2.size)))
      have HA5 := Lib.hid (HA4.out.later hb5)
      have HBb5 := Lib.hid (HBb4.out.later hb5)
      have HX5 := Lib.hid (HX4.out.below (Nat.le_refl _) hb5)
      have hz5 := S2.size
      have HP0 := Lib.hid (own_new w5 35 3)
      have HCa := Lib.hid (fun j u hu => below_cell (bel1 w5 (.cells #[] 35)) (HA5.out.cells j u hu))
      have HCb := Lib.hid HBb5.out.cells
      have HOn := Lib.hid (fun s hs => (HA5.out.2 s hs).one)
      have HOn2 := Lib.hid (fun s hs => (HBb5.out.2 s hs).one)
      have hba : w5.heap.size ≤ (w5.alloc (.cells #[] 35)).heap.size := by simp
      go_wp2_with (at_builtin; refine wp_appl (by rfl) (.tmp 32) (.tmp 33) 40 35 rfl _ 3 40 Try.underlying40 info_sec rfl (by decide) (by decide) w5.heap.size w5.heap.size 0 0 _ rfl HP0.out ga 0 ca ss.length (secCells ss) rfl (cellsOf_len Sec.cells 3 Sec.cells_len ss) HCa.out (secs_one HOn.out) (by omega) hba ?_)
      intro g6 c6 w6 hown6 hgr6 hat6 hlt6
      have S6 := bel_app (bel1 w5 (.cells #[] 35)) HP0.out hgr6 (Nat.le_refl _) hba
      have hz6 := S6.size
      have HO6 := Lib.hid hown6
      have HCb6 := Lib.hid (fun j u hu => below_cell S6 (HCb.out j u hu))
      clear hown6 hgr6 hat6
      go_wp2_with (at_builtin; refine wp_appl (by rfl) (.tmp 34) (.tmp 35) 40 35 rfl _ 3 40 Try.underlying40 info_sec rfl (by decide) (by decide) w5.heap.size g6 c6 ss.length _ rfl HO6.out gb 0 cb ts.length (secCells ts) rfl (cellsOf_len Sec.cells 3 Sec.cells_len ts) HCb6.out (secs_one HOn2.out) (by omega) hz6 ?_)
      intro g7 c7 w7 hown7 hgr7 hat7 hlt7
      have S7 := bel_app S6 HO6.out hgr7 (Nat.le_refl _) hz6
      have hz7 := S7.size
      have HR7 := Lib.hid (show RdS w7 (.slice (some ⟨g7, 0, none⟩) (ss.length + ts.length) c7) (ss ++ ts) from
        ⟨by rw [List.length_append, show secCells (ss ++ ts) = secCells ss ++ secCells ts from cellsOf_append _ _ _]; exact Rd.of_own (by simpa using hown7), fun s hs => by
          rcases List.mem_append.1 hs with h1 | h1
          · exact Rd.below (HA5.out.2 s h1) (Nat.le_refl _) S7
          · exact Rd.below (HBb5.out.2 s h1) (Nat.le_refl _) S7⟩)
      have HBb7 := Lib.hid (HBb5.out.later S7)
      have HA7 := Lib.hid (HA5.out.later S7)
      have HX7 := Lib.hid (HX5.out.below (Nat.le_refl _) S7)
      have S2 := S2.trans (S7.mono hz5)
      clear hown7 hgr7 hat7
      go_wp2_with fail
      (go_at_call 35; (with_reducible refine (c_sSectionsValid _ (ss ++ ts) _ HR7.out).mono ?_); rintro e w8 ⟨rfl, hb8⟩; have S2 := (S2.trans (hb8.mono S2.size)))
      have HR8 := Lib.hid (HR7.out.later hb8)
      have HA8 := Lib.hid (HA7.out.later hb8)
      have HB8 := Lib.hid (HBb7.out.later hb8)
      have HX8 := Lib.hid (HX7.out.below (Nat.le_refl _) hb8)
      have hz8 := S2.size
      cases hv : secsOk ((ss ++ ts).map Sec.d)
      · go_wp2_with (go_at_call 25; (with_reducible refine (c_alive _).mono ?_); rintro e wq ⟨rfl, hbq⟩; have hzq := hbq.size; (try simp only [size_alloc', size_setCell', size_drew', size_drewN'] at hzq); (try (refine keep_heap (b := w.heap.size) hbq ?_ ?_; (first | omega | (simp only [size_alloc', size_setCell', size_drew', size_drewN']; omega)); intro hkq; simp only [heap_alloc_get, heap_setCell_get, heap_drew_get, heap_drewN_get, size_alloc', size_setCell', size_drew', size_drewN', nat_simp1, nat_simp2, nat_simp3, nat_simp4, nat_simp5, if_true, if_false, *] at hkq; obtain ⟨_, _⟩ := blk_facts hkq)); skip)
        go_ret
        exact ⟨rfl, S2.trans (hbq.mono hz8)⟩
      · rw [List.map_append] at hv
        obtain ⟨j1, j2, j3⟩ := played_join hv
        obtain ⟨ok1, ok2⟩ := secsOk_app hv
        obtain ⟨na0, na1⟩ := writtenS_all ok1
        obtain ⟨nb0, nb1⟩ := writtenS_all ok2
        have HJ1 := Lib.hid j1
        have HJ2 := Lib.hid j2
        have HJ3 := Lib.hid (show writtenB (ts.map Sec.d) = writtenS (ts.map Sec.d) by unfold writtenB; rw [if_pos ok2])
        have HMb := Lib.hid (played_all ok2).1
        have hxl2 := hxl
        have HMA := Lib.hid (show (ss ++ ts).map Sec.d = ss.map Sec.d ++ ts.map Sec.d from List.map_append)
        have HJ4 := Lib.hid j3
        rw [← j3] at na0 na1
        have nb0' : 0 ≤ writtenB (ts.map Sec.d) := by rw [HJ3.out]; exact nb0
        have nb1' : writtenB (ts.map Sec.d) ≤ 480 := by rw [HJ3.out]; exact nb1
        have hya := HMb.out
        obtain ⟨gx, cx, rfl⟩ := HXF.out ok1
        clear j1 j2 j3 ok1 ok2 hv nb0 nb1
        go_wp2_with fail
        (go_at_call 40; (with_reducible refine (c_WrittenBars _ ss _ HA8.out).mono ?_); rintro e w9 ⟨rfl, hb9⟩; have S2 := (S2.trans (hb9.mono S2.size)))
        have HR9 := Lib.hid (HR8.out.later hb9)
        have HB9 := Lib.hid (HB8.out.later hb9)
        have HX9 := Lib.hid (HX8.out.below (Nat.le_refl _) hb9)
        go_wp2_with fail
        (go_at_call 42; (with_reducible refine (c_PlayedOrder_any _ ts _ HB9.out).mono ?_); rintro e w10 ⟨vy, rfl, hy10, hyl, -, hb10⟩; have S2 := (S2.trans (hb10.mono S2.size)))
        have HR10 := Lib.hid (HR9.out.later hb10)
        have HB10 := Lib.hid (HB9.out.later hb10)
        have HX10 := Lib.hid (HX9.out.below (Nat.le_refl _) hb10)
        have HY10 := Lib.hid hy10
        clear hy10 hya
        have hz10 := S2.size
        have HQ0 := Lib.hid (own_new w10 3 1)
        have HYr := Lib.hid (fun (k : Nat) (hk : k < (playedB (ts.map Sec.d)).length) => (HMb.out _).1 (List.getElem_mem hk))
        have HJ5 := Lib.hid (show playedB (ss.map Sec.d ++ ts.map Sec.d) = playedB (ss.map Sec.d) ++ (playedB (ts.map Sec.d)).map (· + writtenB (ss.map Sec.d)) by rw [HJ4.out]; exact HJ1.out)
        have HJ6 := Lib.hid (show writtenB ((ss ++ ts).map Sec.d) = writtenB (ss.map Sec.d) + writtenB (ts.map Sec.d) by rw [HMA.out]; exact HJ2.out)
        have HJ7 := Lib.hid (show playedB ((ss ++ ts).map Sec.d) = playedB (ss.map Sec.d) ++ (playedB (ts.map Sec.d)).map (· + writtenB (ss.map Sec.d)) by rw [HMA.out]; exact HJ5.out)
        have HY480 := Lib.hid (show writtenS (ts.map Sec.d) ≤ 480 by rw [← HJ3.out]; exact nb1')
        clear HMb HJ1 HJ2 HJ3 HJ4 HJ5 HMA
        generalize writtenB (ss.map Sec.d) = n0 at *
        generalize playedB (ss.map Sec.d) = X at *
        generalize hnb : writtenB (ts.map Sec.d) = nb at *
        have HNB := Lib.hid hnb
        clear hnb
        generalize playedB (ts.map Sec.d) = Y at *
        have HCx := Lib.hid (fun j u hu => below_cell (bel1 w10 (.cells #[] 3)) (rd_cells HX10.out j u hu))
        have hba10 : w10.heap.size ≤ (w10.alloc (.cells #[] 3)).heap.size := by simp
        go_wp2_with (at_builtin; refine wp_appl (by rfl) (.tmp 45) (.tmp 46) 22 3 rfl _ 1 8 Try.underlying22 info_int rfl (by decide) (by decide) w10.heap.size w10.heap.size 0 0 _ rfl HQ0.out gx 0 cx X.length (intCells X) rfl (by rw [intCells_lenA]; omega) HCx.out (intCells_one _) (by omega) hba10 ?_)
        intro g11 c11 w11 hown11 hgr11 hat11 hlt11
        have S11 := bel_app (bel1 w10 (.cells #[] 3)) HQ0.out hgr11 (Nat.le_refl _) hba10
        have HO11 := Lib.hid hown11
        clear hown11 hgr11 hat11
        obtain ⟨_, Ay, cy, rfl, hy1, hy2, hy3⟩ := HY10.out
        unfold maxLen at hy2
        have HY3 := Lib.hid hy3
        clear hy3
        go_wp2_with fail
        go_loopw [11, 12] (fun o i wr => ∃ (k n g cap : Nat), k ≤ Y.length ∧ i = .int .i64 k ∧ o = .slice (some ⟨g, 0, none⟩) n cap ∧ n ≤ 4000 + k ∧
          wr.ownsRow w10.heap.size 3 1 (.slice (some ⟨g, 0, none⟩) n cap) n (intCells (X ++ (Y.map (· + n0)).take k)) ∧ Below w10.heap.size w10 wr) (fun _ i _ => Y.length - (intOf i).toNat)
        case atStart => exact ⟨0, X.length, g11, c11, Nat.zero_le _, rfl, rfl, by omega, by simpa using HO11.out, S11⟩
        case round =>
          obtain ⟨k, n, g, cap, hk, rfl, rfl, hn, hown, hbl⟩ := hrel
          have hz := hbl.size
          have HO := Lib.hid hown
          clear hown
          by_cases hlt : k < Y.length
          · obtain ⟨b, off, rfl, hcc⟩ := HY3.out (by omega)
            have p0 := int_at (rd_later hbl hcc) k hlt
            obtain ⟨x1, x2⟩ := HYr.out k hlt
            have x3 := HY480.out
            have HT := Lib.hid (show (Y.map (· + n0)).take (k + 1) = (Y.map (· + n0)).take k ++ [Y[k] + n0] by rw [List.take_succ_eq_append_getElem (by simpa using hlt), List.getElem_map])
            generalize Y[k] = x at *
            have x4 : x ≤ 480 := by omega
            have HOa := Lib.hid (HO.out.alloc (.cells #[.int .i64 (x + n0)] 3))
            clear hcc x2 x3
            go_wp2_with (at_builtin; refine wp_appl (by rfl) (.tmp 54) (.tmp 61) 22 3 rfl _ 1 8 Try.underlying22 info_int rfl (by decide) (by decide) w10.heap.size g cap n _ rfl HOa.out wr.heap.size 0 1 1 [.int .i64 (x + n0)] rfl rfl (cells_new1 _ _ _) (by simp [Value.oneCell']) (by omega) ?c2 ?_)
            case c2 => first | omega | (simp; omega)
            intro g12 c12 w12 hown12 hgr12 hat12 hlt12
            have HO12 := Lib.hid hown12
            have hbl12 := bel_app (hbl.alloc hz (.cells #[.int .i64 (x + n0)] 3)) HOa.out hgr12 (Nat.le_refl _) (by simp; omega)
            clear hown12 hgr12 hat12
            go_wp2_with fail
            go_roundw
            case rel => exact ⟨k + 1, n + 1, g12, c12, by omega, by go_num, rfl, by omega, by have h := HO12.out; rw [HT.out]; simp only [intCells_app, List.append_assoc] at h ⊢; exact h, hbl12⟩
            case measure => simp [intOf]; omega
          · have HT := Lib.hid (show (Y.map (· + n0)).take k = Y.map (· + n0) from List.take_of_length_le (by simp; omega))
            have HRk := Lib.hid (HR10.out.later hbl)
            have HBk := Lib.hid (HB10.out.later hbl)
            have S2 := S2.trans (hbl.mono hz10)
            obtain ⟨wo, rfl⟩ : ∃ wo : World, wo = wr := ⟨_, rfl⟩
            go_wp2_with fail
            (go_at_call 40; (with_reducible refine (c_WrittenBars _ (ss ++ ts) _ HRk.out).mono ?_); rintro e w13 ⟨rfl, hb13⟩; rw [HJ6.out]; have S2 := S2.trans (hb13.mono S2.size))
            have HR13 := Lib.hid (HRk.out.later hb13)
            have HB13 := Lib.hid (HBk.out.later hb13)
            have HO13 := Lib.hid (own_belA HO.out hb13)
            go_wp2_with fail
            (go_at_call 40; (with_reducible refine (c_WrittenBars _ ts _ HB13.out).mono ?_); rintro e w14 ⟨rfl, hb14⟩; have S2 := (S2.trans (hb14.mono S2.size)))
            rw [HNB.out]
            have HR14 := Lib.hid (HR13.out.later hb14)
            have HO14 := Lib.hid (own_belA HO13.out hb14)
            go_wp2_with fail
            (go_at_call 42; (with_reducible refine (c_PlayedOrder_any _ (ss ++ ts) _ HR14.out).mono ?_); rintro e w15 ⟨vz, rfl, hz15, hzl, -, hb15⟩; have S2 := (S2.trans (hb15.mono S2.size)))
            rw [HJ7.out] at hz15
            have HZ15 := Lib.hid hz15
            have hA15 := Rd.of_own (own_belA HO14.out hb15)
            have hN : n = (X ++ Y.map (· + n0)).length := by have := hA15.1; rw [HT.out, intCells_lenA] at this; omega
            rw [HT.out] at hA15
            have HA15 := Lib.hid (show Rd w15 (.slice (some ⟨g, 0, none⟩) n cap) 1 (X ++ Y.map (· + n0)).length (intCells (X ++ Y.map (· + n0))) by rw [← hN]; exact hA15)
            clear hz15 hA15 hN
            go_wp2_with fail
            (go_at_call 44; (with_reducible refine (c_sameInts_eq _ _ _ _ HZ15.out HA15.out).mono ?_); rintro e w16 ⟨rfl, hb16⟩; have S2 := (S2.trans (hb16.mono S2.size)))
            go_wp2_with fail
            go_ret
            exact ⟨rfl, S2⟩
    · have hle : (bs.length : Int) ≤ 1048576 := by omega
      go_enter Try.func15, Try.ntmps15
      go_wp2_with fail
      go_ret
      exact ⟨rfl, Below.refl _ _⟩
  · go_enter Try.func15, Try.ntmps15
    go_wp2_with fail
    go_ret
    exact ⟨rfl, Below.refl _ _⟩
end Go.Proofs.Ytpngjofplbnkjaa
