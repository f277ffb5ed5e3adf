/- Drawing pitches. Conditions: none. -/
import Derived.Test.YtiameebjcmnmeaaK12
import Derived.Deep.DeepCutAuto
namespace Go.Proofs.Ytiameebjcmnmeaa
open Go.RowKit
set_option linter.unusedSimpArgs false
set_option linter.unusedVariables false
set_option maxHeartbeats 16000000
def DrewPits (g m : Nat) (w : World) (e : Ending) (w' : World) : Prop :=
  ∃ (v : Value) (ns : List Pit), e = .returned v ∧ Rd w' v 3 ns.length (pitCells ns) ∧ ns.length ≤ 13 ∧ Rdr w' g m ∧ w.grownBy w' (some g)
theorem own_setQ {W : World} {base e size g n cap m i : Nat} {xs : List Value} {u : Value} (h : W.ownsRow base e size (.slice (some ⟨g, 0, none⟩) n cap) m xs) : (W.setCell ⟨g, i, none⟩ u).ownsRow base e size (.slice (some ⟨g, 0, none⟩) n cap) m (xs.set i u) := by
  refine ⟨by rw [List.length_set]; exact h.1, ?_⟩
  rcases h.2 with ⟨hc, _⟩ | ⟨g2, cap2, cur, hv, hb, hg, h1, h2, hs, ht⟩
  · cases hc
  · cases hv
    refine .inr ⟨g, cap, cur.setIfInBounds i u, rfl, hb, ?_, h1, h2, by simpa using hs, ?_⟩
    · simp [heap_setCell_get, hg]
    · rw [Array.toList_setIfInBounds, List.take_set, ht]
theorem set_oct (p : Pit) (l : List Pit) (c : Int) : (pitCells (p :: l)).set 2 (.int .i64 c) = pitCells (⟨p.step, p.alter, c⟩ :: l) := by
  show (cellsOf Pit.cells (p :: l)).set 2 (.int .i64 c) = cellsOf Pit.cells _
  rw [cellsOf_cons, cellsOf_cons]
  rfl
theorem frozen_ownQ {W : World} {base e size g n cap m : Nat} {xs : List Value} (h : W.ownsRow base e size (.slice (some ⟨g, 0, none⟩) n cap) m xs) : ∀ o, W.frozen? ⟨g, o, none⟩ = false := by
  rcases h.2 with ⟨hc, _⟩ | ⟨g2, cap2, cur, hv, _, hg, _⟩
  · cases hc
  · cases hv
    exact (blk_facts hg).2
theorem own_some {W : World} {base e size n : Nat} {v : Value} {xs : List Value} (h : W.ownsRow base e size v n xs) (hn : 0 < n) : ∃ g cap, v = .slice (some ⟨g, 0, none⟩) n cap ∧ n ≤ cap ∧ cap ≤ maxLen := by
  rcases h.2 with ⟨_, h0⟩ | ⟨g, cap, cur, hv, _, _, h1, h2, _⟩
  · omega
  · exact ⟨g, cap, hv, h1, h2⟩
theorem pick_ownQ {W W' : World} {base e size n g : Nat} {v : Value} {xs : List Value} (h : W.ownsRow base e size v n xs) (hk : W.grownBy W' (some g)) (hg : g < base) : W'.ownsRow base e size v n xs :=
  h.kept hk (by
    cases hv : v.ownBlock with
    | none => exact .inl rfl
    | some k =>
      right
      intro hk
      cases hk
      have := (h.lt g hv).1
      omega)
theorem rdr_appQ {W W' : World} {g gv m : Nat} (h : Rdr W g m) (hk : W.grownBy W' (some gv)) (hg : g < gv) : Rdr W' g m :=
  h.keep fun k hk' => hk.block k (Nat.lt_of_le_of_lt hk' h.lt) (by intro hh; cases hh; omega)
theorem kp_appQ {a W W' : World} {g gv : Nat} (ha : a.grownBy W (some g)) (hk : W.grownBy W' (some gv)) (hg : a.heap.size ≤ gv) : a.grownBy W' (some g) :=
  ⟨hk.os.trans ha.os, hk.tape.trans ha.tape, hk.output.trans ha.output, Nat.le_trans ha.size hk.size, fun i hi hne =>
    (hk.block i (Nat.lt_of_lt_of_le hi ha.size) (by intro hh; cases hh; omega)).trans (ha.block i hi hne)⟩
theorem pits_first {W : World} {g : Nat} {p : Pit} {l : List Pit} (h : ∀ j u, (pitCells (p :: l))[j]? = some u → W.cell? ⟨g, 0 + j, none⟩ = some u) :
    W.cell? ⟨g, 0, none⟩ = some (.int .i64 p.step) ∧ W.cell? ⟨g, 1, none⟩ = some (.int .i64 p.alter) ∧ W.cell? ⟨g, 2, none⟩ = some (.int .i64 p.octave) := by
  have := pit_at h 0 (by simp)
  simpa using this
def St (w : World) (g m N : Nat) (v : Value) (wx : World) : Prop :=
  ∃ ns : List Pit, wx.ownsRow w.heap.size 32 3 v ns.length (pitCells ns) ∧ ns.length ≤ N ∧ Rdr wx g m ∧ w.grownBy wx (some g)
theorem rd_tail {W : World} {p : Pit} {l : List Pit} {g cap : Nat} {base : Nat} {e : TypeId} (h : W.ownsRow base e 3 (.slice (some ⟨g, 0, none⟩) (p :: l).length cap) (p :: l).length (pitCells (p :: l))) :
    Rd W (.slice (some ⟨g, 3, none⟩) l.length (cap - 1)) 3 l.length (pitCells l) := by
  have hR := Rd.of_own h
  obtain ⟨_, A, c, he, hnc, hcm, hA⟩ := hR
  cases he
  have hc := own_cells h
  refine ⟨cellsOf_len Pit.cells 3 Pit.cells_len l, _, _, rfl, by simp at hnc; omega, by omega, fun _ => ⟨g, 3, rfl, fun j u hu => ?_⟩⟩
  have := hc (3 + j) u (by
    show (cellsOf Pit.cells (p :: l))[3 + j]? = some u
    rw [cellsOf_cons, List.getElem?_append_right (by rw [Pit.cells_len]; omega), Pit.cells_len, show 3 + j - 3 = j by omega]
    exact hu)
  rwa [Nat.zero_add] at this
theorem ne_cons {ns : List Pit} (h : 0 < ns.length) : ∃ p l, ns = p :: l := by
  cases ns with
  | nil => simp at h
  | cons p l => exact ⟨p, l, rfl⟩
set_option maxRecDepth 100000 in
theorem c_l20Chord (g m : Nat) (w : World) (h : Rdr w g (m + 80)) :
    Calls Try.prog 62 #[.pointer (some ⟨g, 0, none⟩)] w (DrewPits g m w) := by
  have hg := h.lt
  have HO0 := Lib.hid (own_new w 32 3)
  go_enter Try.func62, Try.ntmps62
  go_wp2_with fail
  (go_at_call 36; (with_reducible refine (c_pick g (m+79) _ _ ?_ (by omega) (by omega)).mono ?_); (focus (repeat' (first | (with_reducible assumption) | (with_reducible refine Rdr.alloc ?_ _) | (with_reducible refine Rdr.setCell ?_ ?_ _) | (with_reducible refine Rdr.drewN ?_ _) | (with_reducible refine Rdr.drew ?_) | (show _ < _; first | omega | (simp only [size_alloc', size_setCell', size_drew', size_drewN'] at *; omega))))); rintro e w1 ⟨x1, rfl, hx1, hy1, hz1, hrq, hgq⟩; have hsq := hgq.size; (try simp only [size_alloc', size_setCell', size_drew', size_drewN'] at hsq); skip)
  have hx1' := hy1 (by omega)
  have HO1 := Lib.hid (pick_ownQ HO0.out hgq hg)
  have HK1 := Lib.hid (show w.grownBy w1 (some g) by (repeat' (first | (with_reducible exact World.grownBy.refl _ _) | (with_reducible refine kp_setCell ?_ ?_ _) | (with_reducible refine kp_alloc ?_ _) | (with_reducible refine kp_drew ?_) | (with_reducible refine kp_drewN ?_ _) | (with_reducible refine kp_trans ?_ (by with_reducible assumption)) | (show _ ∨ _; first | (left; omega) | (right; omega) | (right; simp only [size_alloc', size_setCell', size_drew', size_drewN'] at *; omega)) | (with_reducible refine kp_below ?_ (by with_reducible assumption)))))
  have hz1 := HK1.out.size
  have HR1 := Lib.hid hrq
  clear hy1 hrq hgq h
  by_cases hx0 : 0 < x1
  · have h2 : Rdr w1 g ((m + 60) + 11) := HR1.out.mono (by omega)
    go_wp2_with fail
    (go_at_call 51; (with_reducible refine (c_l20Pitch g (m+60) 0 _ ?_ (by omega) (by omega)).mono ?_); (focus (repeat' (first | (with_reducible assumption) | (with_reducible refine Rdr.alloc ?_ _) | (with_reducible refine Rdr.setCell ?_ ?_ _) | (with_reducible refine Rdr.drewN ?_ _) | (with_reducible refine Rdr.drew ?_) | (show _ < _; first | omega | (simp only [size_alloc', size_setCell', size_drew', size_drewN'] at *; omega))))); rintro e w2 ⟨⟨ps, pa, po⟩, rfl, hps, hrq, hgq⟩; have hsq := hgq.size; (try simp only [size_alloc', size_setCell', size_drew', size_drewN'] at hsq); skip)
    have HK2 := Lib.hid (kp_trans HK1.out hgq)
    have h3 : Rdr w2 g ((m + 59) + 1) := hrq
    clear hgq hrq h2 hps
    go_wp2_with fail
    (go_at_call 36; (with_reducible refine (c_pick g (m+59) _ _ ?_ (by omega) (by omega)).mono ?_); (focus (repeat' (first | (with_reducible assumption) | (with_reducible refine Rdr.alloc ?_ _) | (with_reducible refine Rdr.setCell ?_ ?_ _) | (with_reducible refine Rdr.drewN ?_ _) | (with_reducible refine Rdr.drew ?_) | (show _ < _; first | omega | (simp only [size_alloc', size_setCell', size_drew', size_drewN'] at *; omega))))); rintro e w3 ⟨x3, rfl, hx3, hy3, hz3, hrq, hgq⟩; have hsq := hgq.size; (try simp only [size_alloc', size_setCell', size_drew', size_drewN'] at hsq); skip)
    have HK3 := Lib.hid (kp_trans HK2.out hgq)
    have HR3 := Lib.hid hrq
    have hz3 := HK3.out.size
    clear hgq hrq h3 hy3 hx3
    go_wp2_with fail
    (go_at_call 21; (with_reducible refine (c_sChordOf ⟨ps, pa, po⟩ x3 _).mono ?_); rintro e w4 ⟨v4, rfl, ho4, hl4, hb4⟩)
    have HSt4 := Lib.hid (show St w g (m + 59) 4 v4 w4 from ⟨_, own_monoA ho4 hz3, hl4, HR3.out.below hb4 (by have := HR3.out.lt; omega), kp_below HK3.out hb4⟩)
    clear ho4 hb4 hl4
    obtain ⟨ns, hown, hn5, hrd, hgk⟩ := HSt4.out
    have HO := Lib.hid hown
    have HG := Lib.hid hgk
    have HRD := Lib.hid hrd
    have hzk := hgk.size
    obtain ⟨_, A, c, rfl, hnc, hcm, _⟩ := (Rd.of_own hown)
    unfold maxLen at hcm
    clear hown hgk hrd
    by_cases hn0 : 0 < ns.length
    · obtain ⟨⟨ps, pa, po⟩, tl, rfl⟩ := ne_cons (ns := ns) hn0
      obtain ⟨gv, cap, hsl, hcp1, hcp2⟩ := own_some HO.out (by simp)
      unfold maxLen at hcp2
      obtain ⟨rfl, rfl⟩ : A = some ⟨gv, 0, none⟩ ∧ cap = c := by cases hsl; exact ⟨rfl, rfl⟩
      clear hsl
      have htl : tl.length ≤ 4 := by simp at hn5; omega
      have hgv := (HO.out.lt gv rfl).1
      have hgv2 := (HO.out.lt gv rfl).2
      have hn0' : (0 : Int) < (tl.length : Int) + 1 := by omega
      have hrr := HRD.out.mono (m' := (m + 40) + 1) (by omega)
      go_wp2_with fail
      (go_at_call 36; (with_reducible refine (c_pick g (m+40) _ _ ?_ (by omega) (by omega)).mono ?_); (focus (repeat' (first | (with_reducible assumption) | (with_reducible refine Rdr.alloc ?_ _) | (with_reducible refine Rdr.setCell ?_ ?_ _) | (with_reducible refine Rdr.drewN ?_ _) | (with_reducible refine Rdr.drew ?_) | (show _ < _; first | omega | (simp only [size_alloc', size_setCell', size_drew', size_drewN'] at *; omega))))); rintro e w6 ⟨x6, rfl, hx6, hy6, hz6, hrq, hgq⟩; have hsq := hgq.size; (try simp only [size_alloc', size_setCell', size_drew', size_drewN'] at hsq); skip)
      have hx6' := hy6 (by omega)
      have HO6 := Lib.hid (pick_ownQ HO.out hgq hg)
      have HK6 := Lib.hid (kp_trans HG.out hgq)
      have HR6 := Lib.hid hrq
      have hgv6 : gv < w6.heap.size := (HO6.out.lt gv rfl).2
      clear hgq hrq hrr hy6
      go_upto_if 24 with (fail)
      go_cut [3] (fun s3 wx => St w g (m + 39) 5 s3 wx)
      case first =>
        by_cases hx : x6 = 0
        · subst hx
          obtain ⟨o0, o1, o2⟩ := pits_first (own_cells HO6.out)
          have hfz := frozen_ownQ HO6.out
          have HOs := Lib.hid (show (w6.setCell ⟨gv, 2, none⟩ (.int .i64 4)).ownsRow w.heap.size 32 3 (.slice (some ⟨gv, 0, none⟩) (tl.length + 1) cap) (tl.length + 1) (pitCells (⟨ps, pa, 4⟩ :: tl)) by
            have := own_setQ (i := 2) (u := .int .i64 4) HO6.out
            rw [set_oct] at this
            exact this)
          have HRs := Lib.hid (HR6.out.setCell (p := ⟨gv, 2, none⟩) (by show g < gv; omega) (.int .i64 4))
          have HKs := Lib.hid (kp_setCell HK6.out (p := ⟨gv, 2, none⟩) (.inr (by show w.heap.size ≤ gv; omega)) (.int .i64 4))
          clear o0 o1
          have hrr7 := HRs.out.mono (m' := (m + 39) + 1) (by omega)
          go_wp2_with fail
          (go_at_call 36; (with_reducible refine (c_pick g (m+39) _ _ ?_ (by omega) (by omega)).mono ?_); (focus (repeat' (first | (with_reducible assumption) | (with_reducible refine Rdr.alloc ?_ _) | (with_reducible refine Rdr.setCell ?_ ?_ _) | (with_reducible refine Rdr.drewN ?_ _) | (with_reducible refine Rdr.drew ?_) | (show _ < _; first | omega | (simp only [size_alloc', size_setCell', size_drew', size_drewN'] at *; omega))))); rintro e w7 ⟨x7, rfl, hx7, hy7, hz7, hrq, hgq⟩; have hsq := hgq.size; (try simp only [size_alloc', size_setCell', size_drew', size_drewN'] at hsq); skip)
          have hx7' := hy7 (by simp at hn5; omega)
          have HO7 := Lib.hid (pick_ownQ HOs.out hgq hg)
          have HK7 := Lib.hid (kp_trans HKs.out hgq)
          have HR7 := Lib.hid hrq
          have hgv7 : gv < w7.heap.size := (HO7.out.lt gv rfl).2
          obtain ⟨xn, rfl⟩ := Int.eq_ofNat_of_zero_le hx7
          have hxn : xn < (Pit.mk ps pa 4 :: tl).length := by simp; omega
          obtain ⟨c0, c1, c2⟩ := pit_at (own_cells HO7.out) xn hxn
          obtain ⟨q, hq⟩ : ∃ q, (Pit.mk ps pa 4 :: tl)[xn] = q := ⟨_, rfl⟩
          rw [hq] at c0 c1 c2
          obtain ⟨qs, qa, qo⟩ := q
          dsimp only at c0 c1 c2
          simp only [Nat.zero_add] at c0 c1 c2
          have HOa := Lib.hid (HO7.out.alloc (.cells #[.int .i64 qs, .int .i64 qa, .int .i64 qo] 32))
          have hxn' : (xn : Int) < (tl.length : Int) + 1 := by simp at hxn; omega
          clear hgq hrq hrr7 hy7 hq
          go_wp2_with (at_builtin; go_loud (refine wp_appl (by rfl) (.tmp 28) (.tmp 36) 25 32 rfl _ 3 24 Try.underlying25 info_pit rfl (by decide) (by decide) w.heap.size gv cap (tl.length + 1) _ rfl HOa.out w7.heap.size 0 1 1 (Pit.cells ⟨qs, qa, qo⟩) rfl rfl (cells_newP w7 qs qa qo) (pit_one _) (by simp at hn5; omega) (by simp only [size_alloc']; have := HK7.out.size; omega) ?_))
          intro g8 cap8 w8 hown8 hgr8 hat8 hlt8
          have HO8 := Lib.hid (show w8.ownsRow w.heap.size 32 3 (.slice (some ⟨g8, 0, none⟩) (tl.length + 1 + 1) cap8) ((Pit.mk ps pa 4 :: tl) ++ [Pit.mk qs qa qo]).length (pitCells ((Pit.mk ps pa 4 :: tl) ++ [Pit.mk qs qa qo])) by
            rw [pits_snoc, List.length_append]
            exact hown8)
          have HR8 := Lib.hid (rdr_appQ (HR7.out.alloc _) hgr8 (by omega))
          have HK8 := Lib.hid (kp_appQ (kp_alloc HK7.out _) hgr8 (by omega))
          clear hown8 hgr8 hat8
          go_wp2_with fail
          go_meet
          exact ⟨(Pit.mk ps pa 4 :: tl) ++ [Pit.mk qs qa qo], HO8.out, by have := hn5; simp only [List.length_cons, List.length_append, List.length_nil] at this ⊢; omega, HR8.out, HK8.out⟩
        · go_wp2_with fail
          go_meet
          exact ⟨_, HO6.out, by omega, HR6.out.mono (by omega), HK6.out⟩
      case rest =>
        obtain ⟨ns, hown, hn5, hrd, hgk⟩ := hcut
        have HO := Lib.hid hown
        have HG := Lib.hid hgk
        have HRD := Lib.hid hrd
        have hzk := hgk.size
        obtain ⟨_, A, c, rfl, hnc, hcm, _⟩ := (Rd.of_own hown)
        unfold maxLen at hcm
        clear hown hgk hrd
        by_cases hn0 : 0 < ns.length
        · obtain ⟨⟨ps, pa, po⟩, tl, rfl⟩ := ne_cons (ns := ns) hn0
          obtain ⟨gv, cap, hsl, hcp1, hcp2⟩ := own_some HO.out (by simp)
          unfold maxLen at hcp2
          obtain ⟨rfl, rfl⟩ : A = some ⟨gv, 0, none⟩ ∧ cap = c := by cases hsl; exact ⟨rfl, rfl⟩
          clear hsl
          have htl : tl.length ≤ 4 := by simp at hn5; omega
          have hgv := (HO.out.lt gv rfl).1
          have hgv2 := (HO.out.lt gv rfl).2
          have hn0' : (0 : Int) < (tl.length : Int) + 1 := by omega
          have hrr := HRD.out.mono (m' := (m + 10) + 1) (by omega)
          go_wp2_with fail
          (go_at_call 36; (with_reducible refine (c_pick g (m+10) _ _ ?_ (by omega) (by omega)).mono ?_); (focus (repeat' (first | (with_reducible assumption) | (with_reducible refine Rdr.alloc ?_ _) | (with_reducible refine Rdr.setCell ?_ ?_ _) | (with_reducible refine Rdr.drewN ?_ _) | (with_reducible refine Rdr.drew ?_) | (show _ < _; first | omega | (simp only [size_alloc', size_setCell', size_drew', size_drewN'] at *; omega))))); rintro e w6 ⟨x6, rfl, hx6, hy6, hz6, hrq, hgq⟩; have hsq := hgq.size; (try simp only [size_alloc', size_setCell', size_drew', size_drewN'] at hsq); skip)
          have hx6' := hy6 (by omega)
          have HO6 := Lib.hid (pick_ownQ HO.out hgq hg)
          have HK6 := Lib.hid (kp_trans HG.out hgq)
          have HR6 := Lib.hid hrq
          have hgv6 : gv < w6.heap.size := (HO6.out.lt gv rfl).2
          clear hgq hrq hrr hy6
          go_upto_if 45 with (fail)
          go_cut [3] (fun s3 wx => St w g (m + 5) 5 s3 wx)
          case first =>
            by_cases hx : x6 = 0
            · subst hx
              obtain ⟨o0, o1, o2⟩ := pits_first (own_cells HO6.out)
              have hfz := frozen_ownQ HO6.out
              have HOs := Lib.hid (show (w6.setCell ⟨gv, 2, none⟩ (.int .i64 5)).ownsRow w.heap.size 32 3 (.slice (some ⟨gv, 0, none⟩) (tl.length + 1) cap) (tl.length + 1) (pitCells (⟨ps, pa, 5⟩ :: tl)) by
                have := own_setQ (i := 2) (u := .int .i64 5) HO6.out
                rw [set_oct] at this
                exact this)
              have HRs := Lib.hid (HR6.out.setCell (p := ⟨gv, 2, none⟩) (by show g < gv; omega) (.int .i64 5))
              have HKs := Lib.hid (kp_setCell HK6.out (p := ⟨gv, 2, none⟩) (.inr (by show w.heap.size ≤ gv; omega)) (.int .i64 5))
              clear o0 o1
              go_wp2_with fail
              go_meet
              exact ⟨⟨ps, pa, 5⟩ :: tl, HOs.out, by simp at hn5 ⊢; omega, HRs.out.mono (by omega), HKs.out⟩
            · go_wp2_with fail
              go_meet
              exact ⟨_, HO6.out, by omega, HR6.out.mono (by omega), HK6.out⟩
          case rest =>
            obtain ⟨ns, hown, hn5, hrd, hgk⟩ := hcut
            have HO := Lib.hid hown
            have HG := Lib.hid hgk
            have HRD := Lib.hid hrd
            have hzk := hgk.size
            obtain ⟨_, A, c, rfl, hnc, hcm, _⟩ := (Rd.of_own hown)
            unfold maxLen at hcm
            clear hown hgk hrd
            by_cases hn1 : 1 < ns.length
            · obtain ⟨⟨ps, pa, po⟩, tl, rfl⟩ := ne_cons (ns := ns) (by omega)
              obtain ⟨gv, cap, hsl, hcp1, hcp2⟩ := own_some HO.out (by simp)
              unfold maxLen at hcp2
              obtain ⟨rfl, rfl⟩ : A = some ⟨gv, 0, none⟩ ∧ cap = c := by cases hsl; exact ⟨rfl, rfl⟩
              clear hsl
              have htl : tl.length ≤ 4 := by simp at hn5; omega
              have hgv := (HO.out.lt gv rfl).1
              have hgv2 := (HO.out.lt gv rfl).2
              have hn1' : (1 : Int) < (tl.length : Int) + 1 := by simp at hn1; omega
              have hrr := HRD.out.mono (m' := m + 1) (by omega)
              go_wp2_with fail
              (go_at_call 63; (with_reducible refine (c_odd g m _ _ ?_ (by omega) (by omega)).mono ?_); (focus (repeat' (first | (with_reducible assumption) | (with_reducible refine Rdr.alloc ?_ _) | (with_reducible refine Rdr.setCell ?_ ?_ _) | (with_reducible refine Rdr.drewN ?_ _) | (with_reducible refine Rdr.drew ?_) | (show _ < _; first | omega | (simp only [size_alloc', size_setCell', size_drew', size_drewN'] at *; omega))))); rintro e w8 ⟨b8, rfl, hrq, hgq⟩; have hsq := hgq.size; (try simp only [size_alloc', size_setCell', size_drew', size_drewN'] at hsq); skip)
              have HO8 := Lib.hid (pick_ownQ HO.out hgq hg)
              have HK8 := Lib.hid (kp_trans HG.out hgq)
              cases b8
              · go_wp2_with fail
                go_ret
                exact ⟨_, _, rfl, Rd.of_own HO8.out, by omega, hrq, HK8.out⟩
              · go_wp2_with fail
                go_ret
                exact ⟨_, tl, by simp, rd_tail HO8.out, by simp at hn5; omega, hrq, HK8.out⟩
            · have hn1' : ¬ (1 : Int) < (ns.length : Int) := by omega
              go_wp2_with fail
              go_ret
              exact ⟨_, _, rfl, Rd.of_own HO.out, by omega, HRD.out.mono (by omega), HG.out⟩
        · have hn0' : ¬ (0 : Int) < (ns.length : Int) := by omega
          have HO6 := HO
          have HK6 := HG
          have HR6 := HRD
          go_upto_if 45 with (fail)
          go_cut [3] (fun s3 wx => St w g (m + 5) 5 s3 wx)
          case first =>
            go_wp2_with fail
            go_meet
            exact ⟨_, HO6.out, by omega, HR6.out.mono (by omega), HK6.out⟩
          case rest =>
            obtain ⟨ns, hown, hn5, hrd, hgk⟩ := hcut
            have HO := Lib.hid hown
            have HG := Lib.hid hgk
            have HRD := Lib.hid hrd
            have hzk := hgk.size
            obtain ⟨_, A, c, rfl, hnc, hcm, _⟩ := (Rd.of_own hown)
            unfold maxLen at hcm
            clear hown hgk hrd
            by_cases hn1 : 1 < ns.length
            · obtain ⟨⟨ps, pa, po⟩, tl, rfl⟩ := ne_cons (ns := ns) (by omega)
              obtain ⟨gv, cap, hsl, hcp1, hcp2⟩ := own_some HO.out (by simp)
              unfold maxLen at hcp2
              obtain ⟨rfl, rfl⟩ : A = some ⟨gv, 0, none⟩ ∧ cap = c := by cases hsl; exact ⟨rfl, rfl⟩
              clear hsl
              have htl : tl.length ≤ 4 := by simp at hn5; omega
              have hgv := (HO.out.lt gv rfl).1
              have hgv2 := (HO.out.lt gv rfl).2
              have hn1' : (1 : Int) < (tl.length : Int) + 1 := by simp at hn1; omega
              have hrr := HRD.out.mono (m' := m + 1) (by omega)
              go_wp2_with fail
              (go_at_call 63; (with_reducible refine (c_odd g m _ _ ?_ (by omega) (by omega)).mono ?_); (focus (repeat' (first | (with_reducible assumption) | (with_reducible refine Rdr.alloc ?_ _) | (with_reducible refine Rdr.setCell ?_ ?_ _) | (with_reducible refine Rdr.drewN ?_ _) | (with_reducible refine Rdr.drew ?_) | (show _ < _; first | omega | (simp only [size_alloc', size_setCell', size_drew', size_drewN'] at *; omega))))); rintro e w8 ⟨b8, rfl, hrq, hgq⟩; have hsq := hgq.size; (try simp only [size_alloc', size_setCell', size_drew', size_drewN'] at hsq); skip)
              have HO8 := Lib.hid (pick_ownQ HO.out hgq hg)
              have HK8 := Lib.hid (kp_trans HG.out hgq)
              cases b8
              · go_wp2_with fail
                go_ret
                exact ⟨_, _, rfl, Rd.of_own HO8.out, by omega, hrq, HK8.out⟩
              · go_wp2_with fail
                go_ret
                exact ⟨_, tl, by simp, rd_tail HO8.out, by simp at hn5; omega, hrq, HK8.out⟩
            · have hn1' : ¬ (1 : Int) < (ns.length : Int) := by omega
              go_wp2_with fail
              go_ret
              exact ⟨_, _, rfl, Rd.of_own HO.out, by omega, HRD.out.mono (by omega), HG.out⟩
    · have hn0' : ¬ (0 : Int) < (ns.length : Int) := by omega
      have HO6 := HO
      have HK6 := HG
      have HR6 := HRD
      go_upto_if 24 with (fail)
      go_cut [3] (fun s3 wx => St w g (m + 39) 5 s3 wx)
      case first =>
        go_wp2_with fail
        go_meet
        exact ⟨_, HO6.out, by omega, HR6.out.mono (by omega), HK6.out⟩
      case rest =>
        obtain ⟨ns, hown, hn5, hrd, hgk⟩ := hcut
        have HO := Lib.hid hown
        have HG := Lib.hid hgk
        have HRD := Lib.hid hrd
        have hzk := hgk.size
        obtain ⟨_, A, c, rfl, hnc, hcm, _⟩ := (Rd.of_own hown)
        unfold maxLen at hcm
        clear hown hgk hrd
        by_cases hn0 : 0 < ns.length
        · obtain ⟨⟨ps, pa, po⟩, tl, rfl⟩ := ne_cons (ns := ns) hn0
          obtain ⟨gv, cap, hsl, hcp1, hcp2⟩ := own_some HO.out (by simp)
          unfold maxLen at hcp2
          obtain ⟨rfl, rfl⟩ : A = some ⟨gv, 0, none⟩ ∧ cap = c := by cases hsl; exact ⟨rfl, rfl⟩
          clear hsl
          have htl : tl.length ≤ 4 := by simp at hn5; omega
          have hgv := (HO.out.lt gv rfl).1
          have hgv2 := (HO.out.lt gv rfl).2
          have hn0' : (0 : Int) < (tl.length : Int) + 1 := by omega
          have hrr := HRD.out.mono (m' := (m + 10) + 1) (by omega)
          go_wp2_with fail
          (go_at_call 36; (with_reducible refine (c_pick g (m+10) _ _ ?_ (by omega) (by omega)).mono ?_); (focus (repeat' (first | (with_reducible assumption) | (with_reducible refine Rdr.alloc ?_ _) | (with_reducible refine Rdr.setCell ?_ ?_ _) | (with_reducible refine Rdr.drewN ?_ _) | (with_reducible refine Rdr.drew ?_) | (show _ < _; first | omega | (simp only [size_alloc', size_setCell', size_drew', size_drewN'] at *; omega))))); rintro e w6 ⟨x6, rfl, hx6, hy6, hz6, hrq, hgq⟩; have hsq := hgq.size; (try simp only [size_alloc', size_setCell', size_drew', size_drewN'] at hsq); skip)
          have hx6' := hy6 (by omega)
          have HO6 := Lib.hid (pick_ownQ HO.out hgq hg)
          have HK6 := Lib.hid (kp_trans HG.out hgq)
          have HR6 := Lib.hid hrq
          have hgv6 : gv < w6.heap.size := (HO6.out.lt gv rfl).2
          clear hgq hrq hrr hy6
          go_upto_if 45 with (fail)
          go_cut [3] (fun s3 wx => St w g (m + 5) 5 s3 wx)
          case first =>
            by_cases hx : x6 = 0
            · subst hx
              obtain ⟨o0, o1, o2⟩ := pits_first (own_cells HO6.out)
              have hfz := frozen_ownQ HO6.out
              have HOs := Lib.hid (show (w6.setCell ⟨gv, 2, none⟩ (.int .i64 5)).ownsRow w.heap.size 32 3 (.slice (some ⟨gv, 0, none⟩) (tl.length + 1) cap) (tl.length + 1) (pitCells (⟨ps, pa, 5⟩ :: tl)) by
                have := own_setQ (i := 2) (u := .int .i64 5) HO6.out
                rw [set_oct] at this
                exact this)
              have HRs := Lib.hid (HR6.out.setCell (p := ⟨gv, 2, none⟩) (by show g < gv; omega) (.int .i64 5))
              have HKs := Lib.hid (kp_setCell HK6.out (p := ⟨gv, 2, none⟩) (.inr (by show w.heap.size ≤ gv; omega)) (.int .i64 5))
              clear o0 o1
              go_wp2_with fail
              go_meet
              exact ⟨⟨ps, pa, 5⟩ :: tl, HOs.out, by simp at hn5 ⊢; omega, HRs.out.mono (by omega), HKs.out⟩
            · go_wp2_with fail
              go_meet
              exact ⟨_, HO6.out, by omega, HR6.out.mono (by omega), HK6.out⟩
          case rest =>
            obtain ⟨ns, hown, hn5, hrd, hgk⟩ := hcut
            have HO := Lib.hid hown
            have HG := Lib.hid hgk
            have HRD := Lib.hid hrd
            have hzk := hgk.size
            obtain ⟨_, A, c, rfl, hnc, hcm, _⟩ := (Rd.of_own hown)
            unfold maxLen at hcm
            clear hown hgk hrd
            by_cases hn1 : 1 < ns.length
            · obtain ⟨⟨ps, pa, po⟩, tl, rfl⟩ := ne_cons (ns := ns) (by omega)
              obtain ⟨gv, cap, hsl, hcp1, hcp2⟩ := own_some HO.out (by simp)
              unfold maxLen at hcp2
              obtain ⟨rfl, rfl⟩ : A = some ⟨gv, 0, none⟩ ∧ cap = c := by cases hsl; exact ⟨rfl, rfl⟩
              clear hsl
              have htl : tl.length ≤ 4 := by simp at hn5; omega
              have hgv := (HO.out.lt gv rfl).1
              have hgv2 := (HO.out.lt gv rfl).2
              have hn1' : (1 : Int) < (tl.length : Int) + 1 := by simp at hn1; omega
              have hrr := HRD.out.mono (m' := m + 1) (by omega)
              go_wp2_with fail
              (go_at_call 63; (with_reducible refine (c_odd g m _ _ ?_ (by omega) (by omega)).mono ?_); (focus (repeat' (first | (with_reducible assumption) | (with_reducible refine Rdr.alloc ?_ _) | (with_reducible refine Rdr.setCell ?_ ?_ _) | (with_reducible refine Rdr.drewN ?_ _) | (with_reducible refine Rdr.drew ?_) | (show _ < _; first | omega | (simp only [size_alloc', size_setCell', size_drew', size_drewN'] at *; omega))))); rintro e w8 ⟨b8, rfl, hrq, hgq⟩; have hsq := hgq.size; (try simp only [size_alloc', size_setCell', size_drew', size_drewN'] at hsq); skip)
              have HO8 := Lib.hid (pick_ownQ HO.out hgq hg)
              have HK8 := Lib.hid (kp_trans HG.out hgq)
              cases b8
              · go_wp2_with fail
                go_ret
                exact ⟨_, _, rfl, Rd.of_own HO8.out, by omega, hrq, HK8.out⟩
              · go_wp2_with fail
                go_ret
                exact ⟨_, tl, by simp, rd_tail HO8.out, by simp at hn5; omega, hrq, HK8.out⟩
            · have hn1' : ¬ (1 : Int) < (ns.length : Int) := by omega
              go_wp2_with fail
              go_ret
              exact ⟨_, _, rfl, Rd.of_own HO.out, by omega, HRD.out.mono (by omega), HG.out⟩
        · have hn0' : ¬ (0 : Int) < (ns.length : Int) := by omega
          have HO6 := HO
          have HK6 := HG
          have HR6 := HRD
          go_upto_if 45 with (fail)
          go_cut [3] (fun s3 wx => St w g (m + 5) 5 s3 wx)
          case first =>
            go_wp2_with fail
            go_meet
            exact ⟨_, HO6.out, by omega, HR6.out.mono (by omega), HK6.out⟩
          case rest =>
            obtain ⟨ns, hown, hn5, hrd, hgk⟩ := hcut
            have HO := Lib.hid hown
            have HG := Lib.hid hgk
            have HRD := Lib.hid hrd
            have hzk := hgk.size
            obtain ⟨_, A, c, rfl, hnc, hcm, _⟩ := (Rd.of_own hown)
            unfold maxLen at hcm
            clear hown hgk hrd
            by_cases hn1 : 1 < ns.length
            · obtain ⟨⟨ps, pa, po⟩, tl, rfl⟩ := ne_cons (ns := ns) (by omega)
              obtain ⟨gv, cap, hsl, hcp1, hcp2⟩ := own_some HO.out (by simp)
              unfold maxLen at hcp2
              obtain ⟨rfl, rfl⟩ : A = some ⟨gv, 0, none⟩ ∧ cap = c := by cases hsl; exact ⟨rfl, rfl⟩
              clear hsl
              have htl : tl.length ≤ 4 := by simp at hn5; omega
              have hgv := (HO.out.lt gv rfl).1
              have hgv2 := (HO.out.lt gv rfl).2
              have hn1' : (1 : Int) < (tl.length : Int) + 1 := by simp at hn1; omega
              have hrr := HRD.out.mono (m' := m + 1) (by omega)
              go_wp2_with fail
              (go_at_call 63; (with_reducible refine (c_odd g m _ _ ?_ (by omega) (by omega)).mono ?_); (focus (repeat' (first | (with_reducible assumption) | (with_reducible refine Rdr.alloc ?_ _) | (with_reducible refine Rdr.setCell ?_ ?_ _) | (with_reducible refine Rdr.drewN ?_ _) | (with_reducible refine Rdr.drew ?_) | (show _ < _; first | omega | (simp only [size_alloc', size_setCell', size_drew', size_drewN'] at *; omega))))); rintro e w8 ⟨b8, rfl, hrq, hgq⟩; have hsq := hgq.size; (try simp only [size_alloc', size_setCell', size_drew', size_drewN'] at hsq); skip)
              have HO8 := Lib.hid (pick_ownQ HO.out hgq hg)
              have HK8 := Lib.hid (kp_trans HG.out hgq)
              cases b8
              · go_wp2_with fail
                go_ret
                exact ⟨_, _, rfl, Rd.of_own HO8.out, by omega, hrq, HK8.out⟩
              · go_wp2_with fail
                go_ret
                exact ⟨_, tl, by simp, rd_tail HO8.out, by simp at hn5; omega, hrq, HK8.out⟩
            · have hn1' : ¬ (1 : Int) < (ns.length : Int) := by omega
              go_wp2_with fail
              go_ret
              exact ⟨_, _, rfl, Rd.of_own HO.out, by omega, HRD.out.mono (by omega), HG.out⟩
  · obtain ⟨i0, hi0, hz0', hz1', hz2'⟩ := info_parts info_pit
    have hmk := fun W => run_make_rowP (P := Try.prog) 25 32 i0 _ Try.underlying25 hi0 hz0' .i64 .i64 13 13 (Nat.le_refl _) (by rw [hz2']; omega) (by omega) W
    rw [hz1'] at hmk
    have HMK := Lib.hid (fun W => show (Instr.makeSlice 25 (.int .i64 13) (.int .i64 13)).run Try.prog W = .ok (.slice (some ⟨W.heap.size, 0, none⟩) 13 13) (W.alloc (.cells (madeCells (Value.agg #[.int .i64 0, .int .i64 0, .int .i64 0]).cells (13 * 3)) 32)) from hmk W)
    clear hi0 hz0' hz1' hz2' hmk
    have h2 : Rdr w1 g ((m + 60) + 1) := HR1.out.mono (by omega)
    go_wp2_with fail
    (go_at_call 36; (with_reducible refine (c_pick g (m+60) _ _ ?_ (by omega) (by omega)).mono ?_); (focus (repeat' (first | (with_reducible assumption) | (with_reducible refine Rdr.alloc ?_ _) | (with_reducible refine Rdr.setCell ?_ ?_ _) | (with_reducible refine Rdr.drewN ?_ _) | (with_reducible refine Rdr.drew ?_) | (show _ < _; first | omega | (simp only [size_alloc', size_setCell', size_drew', size_drewN'] at *; omega))))); rintro e w2 ⟨x2, rfl, hx2, hy2, hz2, hrq, hgq⟩; have hsq := hgq.size; (try simp only [size_alloc', size_setCell', size_drew', size_drewN'] at hsq); skip)
    have hx2' := hy2 (by omega)
    obtain ⟨k2, rfl⟩ := Int.eq_ofNat_of_zero_le hx2
    have HO2 := Lib.hid (pick_ownQ HO1.out hgq hg)
    have HK2 := Lib.hid (kp_trans HK1.out hgq)
    have HR2 := Lib.hid hrq
    clear hy2 hrq hgq h2
    go_wp2_with fail
    go_loopw [3, 4] (fun s3 s4 wr => ∃ (j gv cap n : Nat) (ns : List Pit), s4 = .int .i64 j ∧ j + n ≤ 4 ∧ s3 = .slice (some ⟨gv, 0, none⟩) n cap ∧ ns.length = n ∧ wr.ownsRow w.heap.size 32 3 (.slice (some ⟨gv, 0, none⟩) n cap) n (pitCells ns) ∧
      Rdr wr g (m + 1 + 11 * j) ∧ w.grownBy wr (some g)) (fun _ s4 _ => (intOf s4).toNat)
    case atStart => exact ⟨k2, _, _, 0, [], rfl, by omega, rfl, rfl, HO2.out, HR2.out.mono (by omega), HK2.out⟩
    case round =>
      obtain ⟨j, gv, cap, n, ns, rfl, hjn, rfl, hlen, hown, hrd, hgk⟩ := hrel
      have hz := hgk.size
      have hgv := (hown.lt gv rfl).1
      have hgv2 := (hown.lt gv rfl).2
      have HO := Lib.hid hown
      have HG := Lib.hid hgk
      have HLN := Lib.hid hlen
      clear hown hgk hlen
      by_cases hj0 : 0 < j
      · obtain ⟨i, rfl⟩ : ∃ i, j = i + 1 := ⟨j - 1, by omega⟩
        have hrr : Rdr wr g ((m + 1 + 11 * i) + 11) := hrd.mono (by omega)
        clear hrd
        go_wp2_with fail
        (go_at_call 51; (with_reducible refine (c_l20Pitch g (m+1+11*i) 14 _ ?_ (by omega) (by omega)).mono ?_); (focus (repeat' (first | (with_reducible assumption) | (with_reducible refine Rdr.alloc ?_ _) | (with_reducible refine Rdr.setCell ?_ ?_ _) | (with_reducible refine Rdr.drewN ?_ _) | (with_reducible refine Rdr.drew ?_) | (show _ < _; first | omega | (simp only [size_alloc', size_setCell', size_drew', size_drewN'] at *; omega))))); rintro e w5 ⟨⟨qs, qa, qo⟩, rfl, hps, hrq, hgq⟩; have hsq := hgq.size; (try simp only [size_alloc', size_setCell', size_drew', size_drewN'] at hsq); skip)
        have HO5 := Lib.hid (pick_ownQ HO.out hgq hg)
        have HK5 := Lib.hid (kp_trans HG.out hgq)
        have HR5 := Lib.hid hrq
        have hgv5 : gv < w5.heap.size := (HO5.out.lt gv rfl).2
        have hz5 := HK5.out.size
        clear hrq hgq hrr hps
        go_wp2_with (at_builtin; go_loud (refine wp_appl (by rfl) (.tmp 65) (.tmp 68) 25 32 rfl _ 3 24 Try.underlying25 info_pit rfl (by decide) (by decide) w.heap.size gv cap n _ rfl (HO5.out.alloc (.cells #[.int .i64 qs, .int .i64 qa, .int .i64 qo] 32)) w5.heap.size 0 1 1 (Pit.cells ⟨qs, qa, qo⟩) rfl rfl (cells_newP w5 qs qa qo) (pit_one _) (by omega) (by simp only [size_alloc']; omega) ?_))
        intro g8 cap8 w8 hown8 hgr8 hat8 hlt8
        have HO8 := Lib.hid (show w8.ownsRow w.heap.size 32 3 (.slice (some ⟨g8, 0, none⟩) (n + 1) cap8) (n + 1) (pitCells (ns ++ [Pit.mk qs qa qo])) by
          rw [pits_snoc]
          exact hown8)
        have HR8 := Lib.hid (rdr_appQ (HR5.out.alloc _) hgr8 (by omega))
        have HK8 := Lib.hid (kp_appQ (kp_alloc HK5.out _) hgr8 (by omega))
        clear hown8 hgr8 hat8
        go_wp2_with fail
        go_roundw
        case rel => exact ⟨i, g8, cap8, n + 1, ns ++ [Pit.mk qs qa qo], by go_num, by omega, rfl, by simp [HLN.out], HO8.out, HR8.out, HK8.out⟩
        case measure => simp [intOf]
      · have hrr : Rdr wr g (m + 1) := hrd.mono (by omega)
        clear hrd
        go_wp2_with fail
        (go_at_call 63; (with_reducible refine (c_odd g m _ _ ?_ (by omega) (by omega)).mono ?_); (focus (repeat' (first | (with_reducible assumption) | (with_reducible refine Rdr.alloc ?_ _) | (with_reducible refine Rdr.setCell ?_ ?_ _) | (with_reducible refine Rdr.drewN ?_ _) | (with_reducible refine Rdr.drew ?_) | (show _ < _; first | omega | (simp only [size_alloc', size_setCell', size_drew', size_drewN'] at *; omega))))); rintro e w5 ⟨b5, rfl, hrq, hgq⟩; have hsq := hgq.size; (try simp only [size_alloc', size_setCell', size_drew', size_drewN'] at hsq); skip)
        have HO5 := Lib.hid (pick_ownQ HO.out hgq hg)
        have HK5 := Lib.hid (kp_trans HG.out hgq)
        cases b5
        · go_wp2_with fail
          go_ret
          exact ⟨_, ns, rfl, by rw [HLN.out]; exact Rd.of_own HO5.out, by rw [HLN.out]; omega, hrq, HK5.out⟩
        · have hmk := HMK.out
          go_wp2_with fail
          go_ret
          refine ⟨_, List.replicate 13 ⟨0, 0, 0⟩, rfl, Rd.of_own (base := w5.heap.size) (e := 32) ⟨by kernel_rfl, .inr ⟨w5.heap.size, 13, _, rfl, Nat.le_refl _, heap_alloc_new w5 _, Nat.le_refl _, by unfold maxLen; omega, by kernel_rfl, by kernel_rfl⟩⟩, by simp, hrq.alloc _, kp_alloc HK5.out _⟩
end Go.Proofs.Ytiameebjcmnmeaa
