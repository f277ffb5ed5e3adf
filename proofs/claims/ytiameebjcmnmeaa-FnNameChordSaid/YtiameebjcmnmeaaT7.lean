/- The walk of FnDegreeOfChord. Conditions: none. -/
import Derived.Test.YtiameebjcmnmeaaT5
import Derived.Test.YtiameebjcmnmeaaK14
import Derived.Test.YtiameebjcmnmeaaK9
namespace Go.Proofs.Ytiameebjcmnmeaa
open Go.RowKit
set_option linter.unusedSimpArgs false
set_option linter.unusedVariables false
set_option maxHeartbeats 16000000
theorem keyOf_mod {p q : Pit} (hp : pitchValid p = true) (hq : pitchValid q = true) (h1 : p.step = q.step) (h2 : p.alter = q.alter) : keyOf p % 12 = keyOf q % 12 := by
  unfold keyOf
  rw [if_pos hp, if_pos hq, h1, h2]
  omega
theorem hasCls_sub {l t : List Pit} (hl : ∀ p ∈ l, pitchValid p = true) (ht : ∀ p ∈ t, pitchValid p = true) (h : l.all (hasT t) = true) {c : Nat} (hc : hasCls l c = true) : hasCls t c = true := by
  unfold hasCls at hc ⊢
  rw [List.any_eq_true] at hc ⊢
  obtain ⟨p, hp, he⟩ := hc
  obtain ⟨q, hq, e1, e2⟩ := hasT_iff.1 (List.all_eq_true.1 h p hp)
  refine ⟨q, hq, ?_⟩
  rw [keyOf_mod (ht q hq) (hl p hp) e1 e2]
  exact he
theorem keyCls_same {l t : List Pit} {a b : Int} (hl : arePits l a 12 = true) (ha : 0 ≤ a) (ht : arePits t b 12 = true) (hb : 0 ≤ b) (h : sameT l t = true) : keyCls l = keyCls t := by
  have h1 := arePits_mem hl
  have h2 := arePits_mem ht
  unfold sameT at h
  rw [Bool.and_eq_true] at h
  have hcls : hasCls l = hasCls t := by
    funext c
    rw [Bool.eq_iff_iff]
    exact ⟨hasCls_sub h1 h2 h.1, hasCls_sub h2 h1 h.2⟩
  have l0 : arePits l 0 12 = true := arePits_iff.2 ⟨by have := (arePits_iff.1 hl).1; omega, (arePits_iff.1 hl).2⟩
  have t0 : arePits t 0 12 = true := arePits_iff.2 ⟨by have := (arePits_iff.1 ht).1; omega, (arePits_iff.1 ht).2⟩
  unfold keyCls
  rw [if_pos l0, if_pos t0]
  unfold clsTo
  rw [hcls]
theorem chordOn_pits {f : Int} (m : Bool) {d : Int} (s : Bool) (hf : inB f (-7) 7 = true) (hd : inB d 0 6 = true) : arePits (chordOn f m d s) 0 12 = true := by
  refine arePits_iff.2 ⟨by have := chordOn_len6 f m d s; omega, fun i hi => ?_⟩
  have hi4 := chordOn_len6 f m d s
  have hm : (chordOn f m d s)[i] ∈ chordOn f m d s := List.getElem_mem hi
  generalize (chordOn f m d s)[i] = p at hm
  unfold chordOn at hm
  rw [if_pos ⟨hf, hd⟩] at hm
  unfold scaleTo at hm
  obtain ⟨j, hj, rfl⟩ := List.mem_map.1 hm
  have hj4 : j < 4 := by
    have := List.mem_range.1 hj
    cases s
    · have : j < 3 := this
      omega
    · exact this
  have ht := tonicK_bd f m
  have hd' := inB_iff.1 hd
  unfold keyPit
  have := alterK_bd f ((28 + tonicK f m + d + 2 * (j : Int)) % 7)
  refine pitchValid_iff.2 ⟨?_, ?_, ?_, ?_, ?_, ?_⟩ <;> dsimp only <;> omega
theorem first7_cases (p : Nat → Bool) : first7 p = -1 ∨ ∃ d : Nat, d ≤ 6 ∧ first7 p = d ∧ p d = true := by
  unfold first7
  cases h0 : p 0
  · cases h1 : p 1
    · cases h2 : p 2
      · cases h3 : p 3
        · cases h4 : p 4
          · cases h5 : p 5
            · cases h6 : p 6
              · exact .inl (by simp)
              · exact .inr ⟨6, by omega, by simp, h6⟩
            · exact .inr ⟨5, by omega, by simp, h5⟩
          · exact .inr ⟨4, by omega, by simp, h4⟩
        · exact .inr ⟨3, by omega, by simp, h3⟩
      · exact .inr ⟨2, by omega, by simp, h2⟩
    · exact .inr ⟨1, by omega, by simp, h1⟩
  · exact .inr ⟨0, by omega, by simp, h0⟩
theorem degF_cases (f : Int) (m : Bool) (l : List Pit) : degF f m l = -1 ∨ ∃ d : Nat, d ≤ 6 ∧ degF f m l = d ∧ (keyCls l = keyCls (chordOn f m d false) ∨ keyCls l = keyCls (chordOn f m d true)) := by
  by_cases hh : inB f (-7) 7 = true ∧ arePits l 1 12 = true
  · rw [degF_yes hh.1 hh.2]
    rcases first7_cases (degAt f m l) with h | ⟨d, hd, he, hp⟩
    · exact .inl h
    · refine .inr ⟨d, hd, he, ?_⟩
      have hdi : inB (d : Int) 0 6 = true := inB_iff.2 (by omega)
      unfold degAt at hp
      rw [Bool.or_eq_true] at hp
      rcases hp with hp | hp
      · exact .inl (keyCls_same hh.2 (by omega) (chordOn_pits m false hh.1 hdi) (by omega) hp)
      · exact .inr (keyCls_same hh.2 (by omega) (chordOn_pits m true hh.1 hdi) (by omega) hp)
  · exact .inl (degF_no hh)
theorem c_DrawDegreeOfChord (v : Value) (bs : List Int) (w : World) (h : Rd w v 1 bs.length (byteCells bs)) (hb : ∀ x ∈ bs, 0 ≤ x ∧ x ≤ 255) :
    Calls Try.prog 33 #[v] w fun e w' => ∃ (f : Int) (m : Bool) (u : Value) (ns : List Pit), e = .returned (.tuple #[.int .i64 f, .bool m, u]) ∧ Rd w' u 3 ns.length (pitCells ns) ∧ ns.length ≤ 13 ∧ Below w.heap.size w w' := by
  go_enter Try.func33, Try.ntmps33
  go_wp2_with fail
  (go_at_call 34; (with_reducible refine (c_open _ _ _ (h) hb).mono ?_); rintro e w1 ⟨g, rfl, hg, hr1, hbq⟩; have hzq := hbq.size; (try simp only [size_alloc', size_setCell', size_drew', size_drewN'] at hzq hg); (try (refine keep_heap (b := w.heap.size) hbq ?_ ?_; (first | omega | (simp only [size_alloc', size_setCell', size_drew', size_drewN']; omega)); intro hkq; simp only [heap_alloc_get, heap_setCell_get, heap_drew_get, heap_drewN_get, size_alloc', size_setCell', size_drew', size_drewN', nat_simp1, nat_simp2, nat_simp3, nat_simp4, nat_simp5, if_true, if_false, *] at hkq; obtain ⟨_, _⟩ := blk_facts hkq)); (try (refine ne_cps (a := w.heap.size) (b := w1.heap.size) ?_ ?_; omega; intro _ _)); (try (refine ne_cps (a := w.heap.size) (b := w1.heap.size + 1) ?_ ?_; omega; intro _ _)); (try (refine ne_cps (a := w.heap.size) (b := w1.heap.size + 1 + 1) ?_ ?_; omega; intro _ _)); skip)
  have HB1 := Lib.hid hbq
  have hr2 : Rdr w1 g ((1 + 150) + 4) := hr1.mono (by omega)
  clear hr1 hbq
  go_wp2_with fail
  (go_at_call 35; (with_reducible refine (c_l20Fifths g (1+150) _ _ ?_ (by omega) (by omega)).mono ?_); (focus (repeat' (first | (with_reducible assumption) | (with_reducible refine Rdr.alloc ?_ _) | (with_reducible refine Rdr.setCell ?_ ?_ _) | (with_reducible refine Rdr.drewN ?_ _) | (with_reducible refine Rdr.drew ?_) | (show _ < _; first | omega | (simp only [size_alloc', size_setCell', size_drew', size_drewN'] at *; omega))))); rintro e w2 ⟨f, rfl, hf1, hf2, hrq, hgq⟩; have hsq := hgq.size; (try simp only [size_alloc', size_setCell', size_drew', size_drewN'] at hsq); skip)
  have HK2 := Lib.hid hgq
  clear hgq
  have h3 : Rdr w2 g (150 + 1) := hrq.mono (by omega)
  clear hrq
  go_wp2_with fail
  (go_at_call 36; (with_reducible refine (c_pick g (150) _ _ ?_ (by omega) (by omega)).mono ?_); (focus (repeat' (first | (with_reducible assumption) | (with_reducible refine Rdr.alloc ?_ _) | (with_reducible refine Rdr.setCell ?_ ?_ _) | (with_reducible refine Rdr.drewN ?_ _) | (with_reducible refine Rdr.drew ?_) | (show _ < _; first | omega | (simp only [size_alloc', size_setCell', size_drew', size_drewN'] at *; omega))))); rintro e w3 ⟨x3, rfl, hx3, hy3, hz3, hrq, hgq⟩; have hsq := hgq.size; (try simp only [size_alloc', size_setCell', size_drew', size_drewN'] at hsq); skip)
  have HK3 := Lib.hid (kp_trans HK2.out hgq)
  have h4 : Rdr w3 g (149 + 1) := hrq
  clear hgq hrq hy3
  go_wp2_with fail
  (go_at_call 36; (with_reducible refine (c_pick g (149) _ _ ?_ (by omega) (by omega)).mono ?_); (focus (repeat' (first | (with_reducible assumption) | (with_reducible refine Rdr.alloc ?_ _) | (with_reducible refine Rdr.setCell ?_ ?_ _) | (with_reducible refine Rdr.drewN ?_ _) | (with_reducible refine Rdr.drew ?_) | (show _ < _; first | omega | (simp only [size_alloc', size_setCell', size_drew', size_drewN'] at *; omega))))); rintro e w4 ⟨x4, rfl, hx4, hy4, hz4, hrq, hgq⟩; have hsq := hgq.size; (try simp only [size_alloc', size_setCell', size_drew', size_drewN'] at hsq); skip)
  have HK4 := Lib.hid (kp_trans HK3.out hgq)
  clear hgq hy4
  by_cases hx0 : 0 < x4
  · have h5 : Rdr w4 g (148 + 1) := hrq
    clear hrq
    go_wp2_with fail
    (go_at_call 36; (with_reducible refine (c_pick g (148) _ _ ?_ (by omega) (by omega)).mono ?_); (focus (repeat' (first | (with_reducible assumption) | (with_reducible refine Rdr.alloc ?_ _) | (with_reducible refine Rdr.setCell ?_ ?_ _) | (with_reducible refine Rdr.drewN ?_ _) | (with_reducible refine Rdr.drew ?_) | (show _ < _; first | omega | (simp only [size_alloc', size_setCell', size_drew', size_drewN'] at *; omega))))); rintro e w5 ⟨x5, rfl, hx5, hy5, hz5, hrq, hgq⟩; have hsq := hgq.size; (try simp only [size_alloc', size_setCell', size_drew', size_drewN'] at hsq); skip)
    have HK5 := Lib.hid (kp_trans HK4.out hgq)
    have h6 : Rdr w5 g (147 + 1) := hrq
    clear hgq hrq hy5
    go_wp2_with fail
    (go_at_call 36; (with_reducible refine (c_pick g (147) _ _ ?_ (by omega) (by omega)).mono ?_); (focus (repeat' (first | (with_reducible assumption) | (with_reducible refine Rdr.alloc ?_ _) | (with_reducible refine Rdr.setCell ?_ ?_ _) | (with_reducible refine Rdr.drewN ?_ _) | (with_reducible refine Rdr.drew ?_) | (show _ < _; first | omega | (simp only [size_alloc', size_setCell', size_drew', size_drewN'] at *; omega))))); rintro e w6 ⟨x6, rfl, hx6, hy6, hz6, hrq, hgq⟩; have hsq := hgq.size; (try simp only [size_alloc', size_setCell', size_drew', size_drewN'] at hsq); skip)
    have HK6 := Lib.hid (kp_trans HK5.out hgq)
    clear hgq hrq hy6
    go_wp2_with fail
    (go_at_call 13; (with_reducible refine (c_sChordOn f _ x5 _ _).mono ?_); rintro e w7 ⟨v7, rfl, ho7, hb7⟩)
    have hB : Below w.heap.size w w7 := (below_of_kp HB1.out HK6.out (by omega) HB1.out.size).trans (hb7.mono (below_of_kp HB1.out HK6.out (by omega) HB1.out.size).size)
    have HR7 := Lib.hid (Rd.of_own ho7)
    have hl7 := chordOn_len6 f (x3 == 0) x5 (x6 == 0)
    clear ho7 hb7
    go_wp2_with fail
    exact bodyPost_ret (v := .tuple #[.int .i64 f, .bool (x3 == 0), v7]) (by simp [results, Try.results33, go_sem, *]) rfl ⟨f, _, _, _, rfl, HR7.out, by omega, hB⟩
  · have h5 : Rdr w4 g (60 + 80) := hrq.mono (by omega)
    clear hrq
    go_wp2_with fail
    (go_at_call 62; (with_reducible refine (c_l20Chord g 60 _ ?_).mono ?_); (focus (repeat' (first | (with_reducible assumption) | (with_reducible refine Rdr.alloc ?_ _) | (with_reducible refine Rdr.setCell ?_ ?_ _) | (with_reducible refine Rdr.drewN ?_ _) | (with_reducible refine Rdr.drew ?_) | (show _ < _; first | omega | (simp only [size_alloc', size_setCell', size_drew', size_drewN'] at *; omega))))); rintro e w5 ⟨u, ns, rfl, hrd, hln, hrq, hgq⟩; have hsq := hgq.size; (try simp only [size_alloc', size_setCell', size_drew', size_drewN'] at hsq); skip)
    have HK5 := Lib.hid (kp_trans HK4.out hgq)
    clear hgq
    go_wp2_with fail
    exact bodyPost_ret (v := .tuple #[.int .i64 f, .bool (x3 == 0), u]) (by simp [results, Try.results33, go_sem, *]) rfl ⟨f, _, _, ns, rfl, hrd, hln, below_of_kp HB1.out HK5.out (by omega) HB1.out.size⟩
set_option maxRecDepth 100000 in
theorem walk_FnDegreeOfChord (w : World) (v : Value) (bs : List Int) (h : Rd w v 1 bs.length (byteCells bs)) (hb : ∀ x ∈ bs, 0 ≤ x ∧ x ≤ 255) :
    Calls Try.prog 9 #[v] w fun e w' => e = .returned (.bool true) ∧ Below w.heap.size w w' := by
  have h' := Lib.hid h
  obtain ⟨_, A, c, rfl, hnc, hcm, hA⟩ := h
  unfold maxLen at hcm
  clear hA
  have HBB := Lib.hid hb
  clear hb
  by_cases hlen : (bs.length : Int) ≤ 1048576
  · have hln : ¬ (1048576 < (bs.length : Int)) := by omega
    go_enter Try.func9, Try.ntmps9
    go_wp2_with fail
    (go_at_call 33; (with_reducible refine (c_DrawDegreeOfChord _ bs _ h'.out HBB.out).mono ?_); rintro e w1 ⟨f, m, u, ns, rfl, hrd, hn13, hb1⟩)
    have S := hb1
    have HN := Lib.hid hrd
    clear hrd hn13
    obtain ⟨n, hn⟩ : ∃ n, degF f m ns = n := ⟨_, rfl⟩
    have HC := Lib.hid (fun w (hr : Rd w u 3 ns.length (pitCells ns)) => show Calls Try.prog 18 #[.int .i64 f, .bool m, u] w fun e w' => e = .returned (.int .i64 n) ∧ Below w.heap.size w w' by have := c_DegreeOfChord f m u ns w hr; rwa [hn] at this)
    have HCS := Lib.hid (fun w (hr : Rd w u 3 ns.length (pitCells ns)) => show Calls Try.prog 32 #[.int .i64 f, .bool m, u] w fun e w' => e = .returned (.int .i64 n) ∧ Below w.heap.size w w' by have := c_sDegreeOfChord f m u ns w hr; rwa [hn] at this)
    have HCA := Lib.hid (degF_cases f m ns)
    rw [hn] at HCA
    clear hn
    go_wp2_with fail
    (go_at_call 18; (with_reducible refine (HC.out _ HN.out).mono ?_); rintro e w2 ⟨rfl, hb2⟩; have S := S.trans (hb2.mono S.size))
    have HN2 := Lib.hid (HN.out.below (Nat.le_refl _) hb2)
    go_wp2_with fail
    (go_at_call 32; (with_reducible refine (HCS.out _ HN2.out).mono ?_); rintro e w3 ⟨rfl, hb3⟩; have S := S.trans (hb3.mono S.size))
    have HN3 := Lib.hid (HN2.out.below (Nat.le_refl _) hb3)
    clear hb1 hb2 hb3
    rcases HCA.out with rfl | ⟨d, hd, rfl, hcls⟩
    · go_wp2_with fail
      (go_at_call 14; (with_reducible refine (c_alive _).mono ?_); rintro e wz ⟨rfl, hbz⟩)
      go_wp2
      go_ret
      exact ⟨rfl, S.trans (hbz.mono S.size)⟩
    · have hd6 : (d : Int) ≤ 6 := by omega
      have HCL := Lib.hid hcls
      clear hcls HCA
      go_wp2_with fail
      (go_at_call 11; (with_reducible refine (c_ChordOn f m d false _).mono ?_); rintro e w4 ⟨v4, rfl, hov4, hbv4⟩; have S := S.trans (hbv4.mono S.size))
      have HRv4 := Lib.hid (Rd.of_own hov4)
      clear hov4
      go_wp2_with fail
      (go_at_call 31; (with_reducible refine (c_KeyClasses _ (chordOn f m d false) _ HRv4.out).mono ?_); rintro e w5 hpost; obtain ⟨kv4, rfl, hkv4, hcv4⟩ := hpost; have S := S.trans (hcv4.mono S.size))
      have HKv4 := Lib.hid (Rd.of_own hkv4)
      clear hkv4
      go_wp2_with fail
      (go_at_call 11; (with_reducible refine (c_ChordOn f m d true _).mono ?_); rintro e w6 ⟨v6, rfl, hov6, hbv6⟩; have S := S.trans (hbv6.mono S.size))
      have HRv6 := Lib.hid (Rd.of_own hov6)
      clear hov6
      go_wp2_with fail
      (go_at_call 31; (with_reducible refine (c_KeyClasses _ (chordOn f m d true) _ HRv6.out).mono ?_); rintro e w7 hpost; obtain ⟨kv6, rfl, hkv6, hcv6⟩ := hpost; have S := S.trans (hcv6.mono S.size))
      have HKv6 := Lib.hid (Rd.of_own hkv6)
      clear hkv6
      have HKa := Lib.hid ((HKv4.out.below (Nat.le_refl _) hbv6).below (Nat.le_refl _) hcv6)
      have HN7 := Lib.hid ((((HN3.out.below (Nat.le_refl _) hbv4).below (Nat.le_refl _) hcv4).below (Nat.le_refl _) hbv6).below (Nat.le_refl _) hcv6)
      go_wp2_with fail
      (go_at_call 31; (with_reducible refine (c_KeyClasses _ ns _ HN7.out).mono ?_); rintro e w8 hpost; obtain ⟨v8, rfl, hk8, hc8⟩ := hpost; have S := S.trans (hc8.mono S.size))
      have HK8 := Lib.hid (Rd.of_own hk8)
      have HKa8 := Lib.hid (HKa.out.below (Nat.le_refl _) hc8)
      have HKb8 := Lib.hid (HKv6.out.below (Nat.le_refl _) hc8)
      clear hk8 hbv4 hcv4 hbv6 hcv6 hc8
      go_wp2_with fail
      (go_at_call 30; (with_reducible refine (c_sameInts _ _ (keyCls ns) (keyCls (chordOn f m d false)) _ HK8.out HKa8.out).mono ?_); rintro e w9 ⟨rfl, hb9⟩; have S := S.trans (hb9.mono S.size))
      by_cases hsame : keyCls ns = keyCls (chordOn f m d false)
      · rw [decide_eq_true hsame]
        go_wp2_with fail
        go_ret
        exact ⟨rfl, S⟩
      · rw [decide_eq_false hsame]
        have hsb := HCL.out.resolve_left hsame
        have HK9 := Lib.hid (HK8.out.below (Nat.le_refl _) hb9)
        have HKb9 := Lib.hid (HKb8.out.below (Nat.le_refl _) hb9)
        rw [hsb] at HK9
        clear hsame hsb
        go_wp2_with fail
        (go_at_call 30; (with_reducible refine (c_sameInts_eq _ _ (keyCls (chordOn f m d true)) _ HK9.out HKb9.out).mono ?_); rintro e w10 ⟨rfl, hb10⟩; have S := S.trans (hb10.mono S.size))
        go_wp2
        go_ret
        exact ⟨rfl, S⟩
  · have hln : 1048576 < (bs.length : Int) := by omega
    go_enter Try.func9, Try.ntmps9
    go_wp2
    go_ret
    exact ⟨rfl, Below.refl _ _⟩
end Go.Proofs.Ytiameebjcmnmeaa
