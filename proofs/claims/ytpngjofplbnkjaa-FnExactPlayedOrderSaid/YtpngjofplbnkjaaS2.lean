/- Sections: reading; the walk of FnExactSectionValid. Conditions: none. -/
import Derived.Test.YtpngjofplbnkjaaS1
namespace Go.Proofs.Ytpngjofplbnkjaa
open Go.RowKit
set_option linter.unusedSimpArgs false
set_option linter.unusedVariables false
set_option maxHeartbeats 4000000

structure Sec where
  bars : Int
  times : Int
  v : Value
  l : List Int
def Sec.cells (s : Sec) : List Value := [.int .i64 s.bars, .int .i64 s.times, s.v]
abbrev Sec.val (s : Sec) : Value := .agg #[.int .i64 s.bars, .int .i64 s.times, s.v]
def Sec.Good (s : Sec) (w : World) : Prop := I64 s.bars ∧ I64 s.times ∧ Rd w s.v 1 s.l.length (intCells s.l) ∧ ∀ a ∈ s.l, I64 a
section
variable {H : Type} {enc : TypeId × Value → H} {w : World} {base : Nat} {spare : Nat → Bool} {held : Bool}
theorem read_sec {fuel : Nat} {cs : List Value} {x : DataW H × List MemPlace} (h : DataW.trod enc Try.prog w base spare held fuel 32 cs = some x) :
    ∃ m : Sec, cs = m.cells ∧ m.Good w := by
  obtain ⟨ys, n, _, _, hl, hyl, hf⟩ := DataW.trod_struct Try.underlying32 h
  have e0 := hf 0 _ rfl
  have e1 := hf 1 _ rfl
  have e2 := hf 2 _ rfl
  rw [show Try.prog.cellsOf 32 = 3 from by kernel_rfl] at hl
  match cs, hl with
  | [c0, c1, c2], _ =>
    match ys, hyl with
    | [y0, y1, y2], _ =>
      have i : Try.prog.cellsOf 3 = 1 := by kernel_rfl
      have ip : Try.prog.cellsOf 22 = 1 := by kernel_rfl
      simp [i, ip] at e0 e1 e2
      obtain ⟨a, ha, ga⟩ := read_int Try.underlying3 e0
      obtain ⟨b, hb, gb⟩ := read_int Try.underlying3 e1
      obtain ⟨c, l, hc, gc, gl⟩ := read_ints e2
      simp at ha hb hc
      subst ha hb hc
      exact ⟨⟨a, b, _, l⟩, rfl, ga, gb, gc, gl⟩
end
theorem c_szSection_top (b t : Int) (v : Value) (n : Nat) (xs : List Value) (w : World) (h : Rd w v 1 n xs) :
    Calls Try.prog 27 #[.agg #[.int .i64 b, .int .i64 t, v], .int .i64 1048576] w fun e w' => e = .returned (.int .i64 (if n ≤ 1048576 then ((1048576 - n : Nat) : Int) else -1)) ∧ Below w.heap.size w w' :=
  c_szSection b t v n 1048576 xs w h (Nat.le_refl _)
theorem walk_FnExactSectionValid (w : World) (s : Sec) (hs : s.Good w) :
    Calls Try.prog 7 #[s.val] w fun e w' => e = .returned (.bool true) ∧ Below w.heap.size w w' := by
  obtain ⟨b, t, v, l⟩ := s
  obtain ⟨_, _, h, _⟩ := hs
  dsimp only at h
  have h' := Lib.hid h
  obtain ⟨_, A, c, rfl, hnc, hcm, hA⟩ := h
  clear hA
  by_cases hn : l.length ≤ 1048576
  · have HN := Lib.hid (show (if l.length ≤ 1048576 then ((1048576 - l.length : Nat) : Int) else -1) = ((1048576 - l.length : Nat) : Int) from if_pos hn)
    go_enter Try.func7, Try.ntmps7
    go_wp2_with fail
    (go_at_call 27; (with_reducible refine (c_szSection_top b t _ l.length _ _ (h'.out.alloc _)).mono ?_); rintro e wq ⟨rfl, hbq⟩; have hzq := hbq.size; (try simp only [size_alloc', size_setCell', size_drew', size_drewN'] at hzq); (try (refine keep_heap (b := w.heap.size) hbq ?_ ?_; (first | omega | (simp only [size_alloc', size_setCell', size_drew', size_drewN']; omega)); intro hkq; simp only [heap_alloc_get, heap_setCell_get, heap_drew_get, heap_drewN_get, size_alloc', size_setCell', size_drew', size_drewN', nat_simp1, nat_simp2, nat_simp3, nat_simp4, nat_simp5, if_true, if_false, *] at hkq; obtain ⟨_, _⟩ := blk_facts hkq)); skip)
    rw [HN.out]
    have hB1 : Below w.heap.size w wq := by (repeat' (first | (with_reducible exact Below.refl _ _) | (with_reducible refine Below.setCell ?_ ?_ _) | (with_reducible refine Below.alloc ?_ ?_ _) | (with_reducible refine Below.drew ?_) | (with_reducible refine below_drewN ?_ _) | (with_reducible refine Below.trans ?_ (Below.mono (by with_reducible assumption) ?_)) | omega | (simp only [size_alloc', size_setCell', size_drew', size_drewN'] at *; omega)))
    go_wp2_with fail
    (go_at_call 29; (with_reducible refine (c_toSection b t _ l _ (h'.out.below (Nat.le_refl _) hB1) hn).mono ?_); rintro e w2 ⟨v2, rfl, hown2, hbq⟩; have hzq := hbq.size; (try simp only [size_alloc', size_setCell', size_drew', size_drewN'] at hzq); (try (refine keep_heap (b := w.heap.size) hbq ?_ ?_; (first | omega | (simp only [size_alloc', size_setCell', size_drew', size_drewN']; omega)); intro hkq; simp only [heap_alloc_get, heap_setCell_get, heap_drew_get, heap_drewN_get, size_alloc', size_setCell', size_drew', size_drewN', nat_simp1, nat_simp2, nat_simp3, nat_simp4, nat_simp5, if_true, if_false, *] at hkq; obtain ⟨_, _⟩ := blk_facts hkq)); skip)
    have hr2 := Rd.of_own hown2
    have hr2' := Lib.hid hr2
    clear hown2
    obtain ⟨_, A2, c2, rfl, hn2, hm2, -⟩ := hr2
    go_wp2_with fail
    (go_at_call 28; (with_reducible refine (c_sSectionValid b t _ l _ hr2'.out).mono ?_); rintro e w3 ⟨rfl, hbq⟩; have hzq := hbq.size; (try simp only [size_alloc', size_setCell', size_drew', size_drewN'] at hzq); (try (refine keep_heap (b := w.heap.size) hbq ?_ ?_; (first | omega | (simp only [size_alloc', size_setCell', size_drew', size_drewN']; omega)); intro hkq; simp only [heap_alloc_get, heap_setCell_get, heap_drew_get, heap_drewN_get, size_alloc', size_setCell', size_drew', size_drewN', nat_simp1, nat_simp2, nat_simp3, nat_simp4, nat_simp5, if_true, if_false, *] at hkq; obtain ⟨_, _⟩ := blk_facts hkq)); skip)
    have hB3 : Below w.heap.size w w3 := by (repeat' (first | (with_reducible exact Below.refl _ _) | (with_reducible refine Below.setCell ?_ ?_ _) | (with_reducible refine Below.alloc ?_ ?_ _) | (with_reducible refine Below.drew ?_) | (with_reducible refine below_drewN ?_ _) | (with_reducible refine Below.trans ?_ (Below.mono (by with_reducible assumption) ?_)) | omega | (simp only [size_alloc', size_setCell', size_drew', size_drewN'] at *; omega)))
    go_wp2_with fail
    (go_at_call 29; (with_reducible refine (c_toSection b t _ l _ (h'.out.below (Nat.le_refl _) hB3) hn).mono ?_); rintro e w4 ⟨v4, rfl, hown4, hbq⟩; have hzq := hbq.size; (try simp only [size_alloc', size_setCell', size_drew', size_drewN'] at hzq); (try (refine keep_heap (b := w.heap.size) hbq ?_ ?_; (first | omega | (simp only [size_alloc', size_setCell', size_drew', size_drewN']; omega)); intro hkq; simp only [heap_alloc_get, heap_setCell_get, heap_drew_get, heap_drewN_get, size_alloc', size_setCell', size_drew', size_drewN', nat_simp1, nat_simp2, nat_simp3, nat_simp4, nat_simp5, if_true, if_false, *] at hkq; obtain ⟨_, _⟩ := blk_facts hkq)); skip)
    have hr4 := Rd.of_own hown4
    have hr4' := Lib.hid hr4
    clear hown4
    obtain ⟨_, A4, c4, rfl, hn4, hm4, -⟩ := hr4
    have hne4 : (w.heap.size = w4.heap.size) = False := eq_false (by omega)
    have hne5 : (w4.heap.size = w.heap.size) = False := eq_false (by omega)
    go_wp2_with fail
    (go_at_call 30; (with_reducible refine (c_SectionValid b t _ l _ (hr4'.out.alloc _)).mono ?_); rintro e w5 ⟨rfl, hbq⟩; have hzq := hbq.size; (try simp only [size_alloc', size_setCell', size_drew', size_drewN'] at hzq); (try (refine keep_heap (b := w.heap.size) hbq ?_ ?_; (first | omega | (simp only [size_alloc', size_setCell', size_drew', size_drewN']; omega)); intro hkq; simp only [heap_alloc_get, heap_setCell_get, heap_drew_get, heap_drewN_get, size_alloc', size_setCell', size_drew', size_drewN', nat_simp1, nat_simp2, nat_simp3, nat_simp4, nat_simp5, if_true, if_false, *] at hkq; obtain ⟨_, _⟩ := blk_facts hkq)); (try (refine keep_heap (b := w4.heap.size) hbq ?_ ?_; (first | omega | (simp only [size_alloc', size_setCell', size_drew', size_drewN']; omega)); intro hkq; simp only [heap_alloc_get, heap_setCell_get, heap_drew_get, heap_drewN_get, size_alloc', size_setCell', size_drew', size_drewN', nat_simp1, nat_simp2, nat_simp3, nat_simp4, nat_simp5, if_true, if_false, *] at hkq; obtain ⟨_, _⟩ := blk_facts hkq)); skip)
    have hr5 := (hr4'.out.alloc (.cells #[.int .i64 b, .int .i64 t, .slice A4 l.length c4] 35)).below (Nat.le_refl _) hbq
    have hB5 : Below w.heap.size w w5 := by (repeat' (first | (with_reducible exact Below.refl _ _) | (with_reducible refine Below.setCell ?_ ?_ _) | (with_reducible refine Below.alloc ?_ ?_ _) | (with_reducible refine Below.drew ?_) | (with_reducible refine below_drewN ?_ _) | (with_reducible refine Below.trans ?_ (Below.mono (by with_reducible assumption) ?_)) | omega | (simp only [size_alloc', size_setCell', size_drew', size_drewN'] at *; omega)))
    have hb0 : Below w5.heap.size w5 w5 := Below.refl _ _
    go_wp2_with fail
    go_region_held3 (fun w' => Below w5.heap.size w5 w' ∧ w'.cell? ⟨w.heap.size, 0, none⟩ = some (.int .i64 b) ∧ w'.cell? ⟨w.heap.size, 1, none⟩ = some (.int .i64 t) ∧ w'.cell? ⟨w.heap.size, 2, none⟩ = some (.slice A l.length c) ∧
        w'.cell? ⟨w4.heap.size, 0, none⟩ = some (.int .i64 b) ∧ w'.cell? ⟨w4.heap.size, 1, none⟩ = some (.int .i64 t) ∧ w'.cell? ⟨w4.heap.size, 2, none⟩ = some (.slice A4 l.length c4))
      (repeat' (first | exact hb0.drew | exact hb0 | assumption | with_reducible apply And.intro | (simp [*]; done)))
      (first
        | (go_at_call 29; obtain ⟨s0, s1, s2, s3, s4, s5, s6⟩ := ‹Below w5.heap.size w5 _ ∧ _›; (with_reducible refine (c_toSection b t _ l _ (h'.out.below (Nat.le_refl _) (hB5.trans (s0.mono hB5.size))) hn).mono ?_); rintro e w6 ⟨v6, rfl, hown6, hb6⟩; have hr6 := Rd.of_own hown6; have hr6' := Lib.hid hr6; clear hown6; obtain ⟨_, A6, c6, rfl, hn6, hm6, -⟩ := hr6; have S2 := And.intro (s0.trans (hb6.mono s0.size)) (And.intro (below_cell hb6 s1) (And.intro (below_cell hb6 s2) (And.intro (below_cell hb6 s3) (And.intro (below_cell hb6 s4) (And.intro (below_cell hb6 s5) (below_cell hb6 s6)))))))
        | (go_at_call 31; obtain ⟨s0, s1, s2, s3, s4, s5, s6⟩ := ‹Below w5.heap.size w5 _ ∧ _›; (with_reducible refine (c_eqSection b t _ _ l _ (hr5.below (Nat.le_refl _) s0) hr6'.out).mono ?_); rintro e w7 ⟨rfl, hb7⟩; have S2 := And.intro (s0.trans (hb7.mono s0.size)) (And.intro (below_cell hb7 s1) (And.intro (below_cell hb7 s2) (And.intro (below_cell hb7 s3) (And.intro (below_cell hb7 s4) (And.intro (below_cell hb7 s5) (below_cell hb7 s6))))))))
    go_wp2
    go_ret
    exact ⟨rfl, hB5.trans (S2.1.mono hB5.size)⟩
  · have HN := Lib.hid (show (if l.length ≤ 1048576 then ((1048576 - l.length : Nat) : Int) else -1) = -1 from if_neg hn)
    go_enter Try.func7, Try.ntmps7
    go_wp2_with fail
    (go_at_call 27; (with_reducible refine (c_szSection_top b t _ l.length _ _ (h'.out.alloc _)).mono ?_); rintro e wq ⟨rfl, hbq⟩; have hzq := hbq.size; (try simp only [size_alloc', size_setCell', size_drew', size_drewN'] at hzq); (try (refine keep_heap (b := w.heap.size) hbq ?_ ?_; (first | omega | (simp only [size_alloc', size_setCell', size_drew', size_drewN']; omega)); intro hkq; simp only [heap_alloc_get, heap_setCell_get, heap_drew_get, heap_drewN_get, size_alloc', size_setCell', size_drew', size_drewN', nat_simp1, nat_simp2, nat_simp3, nat_simp4, nat_simp5, if_true, if_false, *] at hkq; obtain ⟨_, _⟩ := blk_facts hkq)); skip)
    rw [HN.out]
    go_wp2
    go_ret
    exact ⟨rfl, by (repeat' (first | (with_reducible exact Below.refl _ _) | (with_reducible refine Below.setCell ?_ ?_ _) | (with_reducible refine Below.alloc ?_ ?_ _) | (with_reducible refine Below.drew ?_) | (with_reducible refine below_drewN ?_ _) | (with_reducible refine Below.trans ?_ (Below.mono (by with_reducible assumption) ?_)) | omega | (simp only [size_alloc', size_setCell', size_drew', size_drewN'] at *; omega)))⟩
end Go.Proofs.Ytpngjofplbnkjaa
