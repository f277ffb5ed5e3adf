/- The program's NameChord. Conditions: none. -/
import Derived.Test.YtiameebjcmnmeaaT8
namespace Go.Proofs.Ytiameebjcmnmeaa
open Go.RowKit
set_option linter.unusedSimpArgs false
set_option linter.unusedVariables false
set_option maxHeartbeats 16000000
def Z3 : Obj := .cells #[.int .i64 0, .int .i64 0, .int .i64 0] 32
set_option maxRecDepth 100000 in
theorem c_lowest (v : Value) (ns : List Pit) (w : World) (h : Rd w v 3 ns.length (pitCells ns)) (h0 : 0 < ns.length) :
    Calls Try.prog 50 #[v] w fun e w' => e = .returned (lowP ns).v ∧ Below w.heap.size w w' := by
  have HLow := Lib.hid (lowP_get h0)
  have HLT := Lib.hid (fun k hk => lowTo_lt (l := ns) h0 (k := k) hk)
  have HSu := Lib.hid (lowTo_succ ns)
  obtain ⟨_, A, c, rfl, hnc, hcm, hA⟩ := h
  unfold maxLen at hcm
  obtain ⟨b1, off, rfl, hcc⟩ := hA h0
  have HCC := Lib.hid hcc
  obtain ⟨p0, p1, p2⟩ := pit_at (fun j u hu => below_cell (bel1 w (.cells #[.int .i64 0, .int .i64 0, .int .i64 0] 32)) (hcc j u hu)) 0 h0
  have H0 := Lib.hid (show ns[0] = ns[lowTo ns 0]'(lowTo_lt h0 (Nat.zero_le _)) from rfl)
  obtain ⟨f, hf⟩ : ∃ f, ns[0] = f := ⟨_, rfl⟩
  rw [hf] at p0 p1 p2 H0
  obtain ⟨fs, fa, fo⟩ := f
  dsimp only at p0 p1 p2
  simp only [Nat.zero_mul, Nat.add_zero] at p0 p1 p2
  have h0i : (0 : Int) < (ns.length : Int) := by omega
  have HX0 := Lib.hid (below_heap (bel1 (w.alloc (.cells #[.int .i64 0, .int .i64 0, .int .i64 0] 32)) (.cells #[.int .i64 fs, .int .i64 fa, .int .i64 fo] 32)) (heap_alloc_new w (.cells #[.int .i64 0, .int .i64 0, .int .i64 0] 32)))
  have HL0 := Lib.hid (show ((w.alloc (.cells #[.int .i64 0, .int .i64 0, .int .i64 0] 32)).alloc (.cells #[.int .i64 fs, .int .i64 fa, .int .i64 fo] 32)).heap[w.heap.size + 1]? = some (.cells #[.int .i64 fs, .int .i64 fa, .int .i64 fo] 32 (0, 0)) by (simp only [heap_alloc_get, heap_setCell_get, heap_drew_get, heap_drewN_get, size_alloc', size_setCell', size_drew', size_drewN', nat_simp1, nat_simp2, nat_simp3, nat_simp4, nat_simp5, if_true, if_false, Option.map_some, *]; first | done | rfl | simp))
  clear hcc hf hA
  go_enter Try.func50, Try.ntmps50
  go_wp2_with fail
  go_loopw [11] (fun i wr => ∃ (k : Nat) (y : Pit), k ≤ ns.length ∧ i = .int .i64 k ∧ (∀ hk : lowTo ns k < ns.length, ns[lowTo ns k] = y) ∧ wr.heap[w.heap.size]? = some (.cells #[.int .i64 0, .int .i64 0, .int .i64 0] 32 (0, 0)) ∧
    wr.heap[w.heap.size + 1]? = some (.cells #[.int .i64 y.step, .int .i64 y.alter, .int .i64 y.octave] 32 (0, 0)) ∧ Below w.heap.size w wr ∧ w.heap.size + 1 < wr.heap.size) (fun i _ => ns.length - (intOf i).toNat)
  case atStart => exact ⟨0, ⟨fs, fa, fo⟩, Nat.zero_le _, rfl, fun _ => H0.out.symm, HX0.out, HL0.out, by (repeat' (first | (with_reducible exact Below.refl _ _) | (with_reducible refine Below.setCell ?_ ?_ _) | (with_reducible refine Below.alloc ?_ ?_ _) | (with_reducible refine Below.drew ?_) | (with_reducible refine below_drewN ?_ _) | (with_reducible refine Below.trans ?_ (Below.mono (by with_reducible assumption) ?_)) | omega | (simp only [size_alloc', size_setCell', size_drew', size_drewN'] at *; omega))), by simp⟩
  case round =>
    obtain ⟨k, ⟨ys, ya, yo⟩, hk, rfl, hy, hX, hL, hbl, hz1⟩ := hrel
    have HX := Lib.hid hX
    have HY := Lib.hid hy
    have HL := Lib.hid hL
    have hz := hbl.size
    clear hy hX hL
    by_cases hlt : k < ns.length
    · obtain ⟨p0, p1, p2⟩ := pit_at (fun j u hu => (hbl.cell (World.block_lt_of_cell? w _ (HCC.out j u hu))).trans (HCC.out j u hu)) k hlt
      have hk1 : (0 : Int) ≤ (k : Int) := by omega
      have hk2 : (k : Int) < (ns.length : Int) := by omega
      have hS := HSu.out k hlt (HLT.out k hk)
      rw [HY.out (HLT.out k hk)] at hS
      obtain ⟨x, hx⟩ : ∃ x, ns[k] = x := ⟨_, rfl⟩
      have HXX := Lib.hid hx
      rw [hx] at p0 p1 p2 hS
      clear hx
      obtain ⟨xs, xa, xo⟩ := x
      dsimp only at p0 p1 p2
      have HS := Lib.hid hS
      clear hS
      obtain ⟨X, hXk⟩ : ∃ X, keyOf ⟨xs, xa, xo⟩ = X := ⟨_, rfl⟩
      obtain ⟨Y, hYk⟩ : ∃ X, keyOf ⟨ys, ya, yo⟩ = X := ⟨_, rfl⟩
      rw [hXk, hYk] at HS
      have HXK := Lib.hid (fun w => show Calls Try.prog 22 #[.agg #[.int .i64 xs, .int .i64 xa, .int .i64 xo]] w fun e w' => e = .returned (.int .i64 X) ∧ Below w.heap.size w w' by have := c_PitchKey ⟨xs, xa, xo⟩ w; rw [hXk] at this; exact this)
      have HYK := Lib.hid (fun w => show Calls Try.prog 22 #[.agg #[.int .i64 ys, .int .i64 ya, .int .i64 yo]] w fun e w' => e = .returned (.int .i64 Y) ∧ Below w.heap.size w w' by have := c_PitchKey ⟨ys, ya, yo⟩ w; rw [hYk] at this; exact this)
      have hL9 := below_heap (bel1 wr (.cells #[.int .i64 xs, .int .i64 xa, .int .i64 xo] 32)) HL.out
      have HX9 := Lib.hid (below_heap (bel1 wr (.cells #[.int .i64 xs, .int .i64 xa, .int .i64 xo] 32)) HX.out)
      have HB9 := Lib.hid (hbl.alloc hz (.cells #[.int .i64 xs, .int .i64 xa, .int .i64 xo] 32))
      have HL9 := Lib.hid hL9
      obtain ⟨_, _⟩ := blk_facts hL9
      dsimp only at *
      clear hXk hYk hL9
      go_wp2_with fail
      (refine wp_region_more_lit (by kernel_rfl) (by kernel_rfl) ?_; (repeat (go_big_quiet_step ((first | (go_at_call 22; with_reducible exact Calls.more_of (HXK.out _)) | (go_at_call 22; with_reducible exact Calls.more_of (HYK.out _)))))); refine wpQuiet_nil ?_; intro wq hwq; have hbq := below_of_more hwq; clear hwq; have hzq := hbq.size; (try simp only [size_alloc', size_setCell', size_drew', size_drewN'] at hzq); (try (refine keep_heap (b := wr.heap.size) hbq ?_ ?_; (first | omega | (simp only [size_alloc', size_setCell', size_drew', size_drewN']; omega)); intro hkq; simp only [heap_alloc_get, heap_setCell_get, heap_drew_get, heap_drewN_get, size_alloc', size_setCell', size_drew', size_drewN', nat_simp1, nat_simp2, nat_simp3, nat_simp4, nat_simp5, if_true, if_false, *] at hkq; obtain ⟨_, _⟩ := blk_facts hkq)); skip)
      have HXq := Lib.hid (below_heap hbq HX9.out)
      have HLq := Lib.hid (below_heap hbq HL9.out)
      have HBq := Lib.hid (HB9.out.trans (hbq.mono HB9.out.size))
      have hszq : w.heap.size + 1 < wq.heap.size := by have := hbq.size; simp only [size_alloc'] at this; omega
      by_cases hc : X < Y
      · have hS2 : lowTo ns (k + 1) = k := by rw [HS.out, if_pos hc]
        have HS2 := Lib.hid hS2
        clear hS2
        have hfz := (blk_facts HLq.out).2
        have hcl := (blk_facts HLq.out).1
        clear hbq
        go_wp2_with fail
        go_roundw
        case rel => exact ⟨k + 1, ⟨xs, xa, xo⟩, by omega, by go_num, by rw [HS2.out]; exact fun _ => HXX.out, by have := HXq.out; (simp only [heap_alloc_get, heap_setCell_get, heap_drew_get, heap_drewN_get, size_alloc', size_setCell', size_drew', size_drewN', nat_simp1, nat_simp2, nat_simp3, nat_simp4, nat_simp5, if_true, if_false, Option.map_some, *]; first | done | rfl | simp), by have := HLq.out; (simp only [heap_alloc_get, heap_setCell_get, heap_drew_get, heap_drewN_get, size_alloc', size_setCell', size_drew', size_drewN', nat_simp1, nat_simp2, nat_simp3, nat_simp4, nat_simp5, if_true, if_false, Option.map_some, *]; first | done | rfl | simp), by have := HBq.out; (repeat' (first | (with_reducible exact Below.refl _ _) | (with_reducible refine Below.setCell ?_ ?_ _) | (with_reducible refine Below.alloc ?_ ?_ _) | (with_reducible refine Below.drew ?_) | (with_reducible refine below_drewN ?_ _) | (with_reducible refine Below.trans ?_ (Below.mono (by with_reducible assumption) ?_)) | omega | (simp only [size_alloc', size_setCell', size_drew', size_drewN'] at *; omega))), by simp only [size_setCell']; omega⟩
        case measure => simp [intOf]; omega
      · have HS2 := Lib.hid (show lowTo ns (k + 1) = lowTo ns k by rw [HS.out, if_neg hc])
        go_wp2_with fail
        go_roundw
        case rel => exact ⟨k + 1, ⟨ys, ya, yo⟩, by omega, by go_num, by rw [HS2.out]; exact HY.out, HXq.out, HLq.out, HBq.out, hszq⟩
        case measure => simp [intOf]; omega
    · have hke : k = ns.length := by omega
      have HF := Lib.hid (show lowP ns = ⟨ys, ya, yo⟩ by rw [HLow.out, ← HY.out (by rw [hke]; exact HLT.out _ (Nat.le_refl _))]; subst hke; rfl)
      have hX9 := HX.out
      have hL9 := HL.out
      obtain ⟨_, _⟩ := blk_facts hL9
      obtain ⟨_, _⟩ := blk_facts hX9
      dsimp only at *
      go_wp2_with fail
      (refine bodyPost_ret (results_cell_row rfl _ _ (w.heap.size) 32 #[.int .i64 ys, .int .i64 ya, .int .i64 yo] (0, 0) _ rfl ?_ Try.underlying32 rfl (by kernel_rfl)) rfl ?_)
      · (simp only [heap_alloc_get, heap_setCell_get, heap_drew_get, heap_drewN_get, size_alloc', size_setCell', size_drew', size_drewN', nat_simp1, nat_simp2, nat_simp3, nat_simp4, nat_simp5, if_true, if_false, Option.map_some, *]; first | done | rfl | simp)
      · exact ⟨by rw [HF.out], by (repeat' (first | (with_reducible exact Below.refl _ _) | (with_reducible refine Below.setCell ?_ ?_ _) | (with_reducible refine Below.alloc ?_ ?_ _) | (with_reducible refine Below.drew ?_) | (with_reducible refine below_drewN ?_ _) | (with_reducible refine Below.trans ?_ (Below.mono (by with_reducible assumption) ?_)) | omega | (simp only [size_alloc', size_setCell', size_drew', size_drewN'] at *; omega)))⟩
end Go.Proofs.Ytiameebjcmnmeaa
