/- Classes of keys: both sides. Conditions: none. -/
import Derived.Test.YtiameebjcmnmeaaKI
import Derived.Test.YtiameebjcmnmeaaC7
namespace Go.Proofs.Ytiameebjcmnmeaa
open Go.RowKit
set_option linter.unusedSimpArgs false
set_option linter.unusedVariables false
set_option maxHeartbeats 16000000
theorem ints_nil_own {w w' : World} : w'.ownsRow w.heap.size 3 1 (.slice none 0 0) 0 (intCells []) := ⟨rfl, .inl ⟨rfl, rfl⟩⟩
theorem cls_app {W : World} {base g cap c : Nat} {ns : List Pit} (h : W.ownsRow base 3 1 (.slice (some ⟨g, 0, none⟩) ((clsTo ns c).length + 1) cap) ((clsTo ns c).length + 1) (intCells (clsTo ns c) ++ intCells [(c : Int)])) (hb : hasCls ns c = true) :
    W.ownsRow base 3 1 (.slice (some ⟨g, 0, none⟩) (clsTo ns (c + 1)).length cap) (clsTo ns (c + 1)).length (intCells (clsTo ns (c + 1))) := by
  rw [clsTo_succ, if_pos hb, List.length_append, intCells_app]
  exact h
theorem cls_not {ns : List Pit} {c : Nat} (hb : hasCls ns c = false) : clsTo ns (c + 1) = clsTo ns c := by rw [clsTo_succ, if_neg (by rw [hb]; simp)]
theorem keyCls_yes {ns : List Pit} (h : arePits ns 0 12 = true) : keyCls ns = clsTo ns 12 := by unfold keyCls; rw [if_pos h]
theorem keyCls_no {ns : List Pit} (h : arePits ns 0 12 = false) : keyCls ns = [] := by unfold keyCls; rw [if_neg (by rw [h]; simp)]
theorem cells_new1i (W : World) (x : Int) : ∀ j u, (intCells [x])[j]? = some u → (W.alloc (.cells #[.int .i64 x] 3)).cell? ⟨W.heap.size, 0 + j, none⟩ = some u := by
  intro j u hu
  rw [intCells_at] at hu
  match j, hu with
  | 0, hu => simp at hu; subst hu; rw [cell_of_row _ W.heap.size 0 _ _ _ (heap_alloc_new W _)]; rfl
  | j + 1, hu => simp at hu
set_option maxRecDepth 100000 in
theorem c_KeyClasses (v : Value) (ns : List Pit) (w : World) (h : Rd w v 3 ns.length (pitCells ns)) :
    Calls Try.prog 31 #[v] w (IntsOf (keyCls ns) w) := by
  have h' := Lib.hid h
  cases hv : arePits ns 0 12
  · have HF := Lib.hid (keyCls_no hv)
    go_enter Try.func31, Try.ntmps31
    go_wp2_with fail
    (go_at_call 47; (with_reducible refine (c_arePitches _ ns 0 12 _ h'.out).mono ?_); rintro e wq ⟨rfl, hbq⟩; rw [hv])
    go_wp2
    go_ret
    exact ⟨_, rfl, by rw [HF.out]; exact ints_nil_own, hbq⟩
  · have HF := Lib.hid (keyCls_yes hv)
    have HAP := Lib.hid hv
    have hlen : ns.length ≤ 12 := by have := (arePits_iff.1 hv).1; omega
    obtain ⟨_, A, c, rfl, hnc, hcm, hA⟩ := h
    unfold maxLen at hcm
    clear hA
    go_enter Try.func31, Try.ntmps31
    go_wp2_with fail
    (go_at_call 47; (with_reducible refine (c_arePitches _ ns 0 12 _ h'.out).mono ?_); rintro e w1 ⟨rfl, hb1⟩; rw [hv])
    have HR := Lib.hid (h'.out.below (Nat.le_refl _) hb1)
    have HH0 := Lib.hid (heap_alloc_new w1 (.cells #[.bool false, .bool false, .bool false, .bool false, .bool false, .bool false, .bool false, .bool false, .bool false, .bool false, .bool false, .bool false] 82))
    obtain ⟨_, A0, c0, he0, _, _, hA0⟩ := HR.out
    cases he0
    have HAA := Lib.hid hA0
    have hz1 := hb1.size
    have HB1 := Lib.hid hb1
    clear hv hA0 hb1
    go_wp2_with fail
    go_loopw [14] (fun i wr => ∃ (k : Nat) (cur : Array Value), k ≤ ns.length ∧ i = .int .i64 k ∧ wr.heap[w1.heap.size]? = some (.cells cur 82 (0, 0)) ∧ cur.size = 12 ∧ (∀ c, c < 12 → cur[c]? = some (.bool (hasCls (ns.take k) c))) ∧
      Below w1.heap.size w1 wr) (fun i _ => ns.length - (intOf i).toNat)
    case atStart =>
      refine ⟨0, _, Nat.zero_le _, rfl, HH0.out, rfl, fun c hc => ?_, bel1 _ _⟩
      have h12 : c = 0 ∨ c = 1 ∨ c = 2 ∨ c = 3 ∨ c = 4 ∨ c = 5 ∨ c = 6 ∨ c = 7 ∨ c = 8 ∨ c = 9 ∨ c = 10 ∨ c = 11 := by omega
      rcases h12 with rfl | rfl | rfl | rfl | rfl | rfl | rfl | rfl | rfl | rfl | rfl | rfl <;> rfl
    case round =>
      obtain ⟨k, cur, hk, rfl, hcur, hsz, hval, hbl⟩ := hrel
      have hz := hbl.size
      have HH := Lib.hid hcur
      have HS := Lib.hid hsz
      have HV := Lib.hid hval
      have hgl : w1.heap.size < wr.heap.size := (Array.getElem?_eq_some_iff.1 hcur).1
      clear hval hcur hsz
      by_cases hlt : k < ns.length
      · obtain ⟨b1, off, rfl, hcc⟩ := HAA.out (by omega)
        obtain ⟨p0, p1, p2⟩ := pit_at (fun j u hu => below_cell hbl (hcc j u hu)) k hlt
        have HTk := Lib.hid (fun c => hasCls_take_succ ns k hlt c)
        have hk1 : (0 : Int) ≤ (k : Int) := by omega
        have hk2 : (k : Int) < (ns.length : Int) := by omega
        generalize ns[k] = x at *
        obtain ⟨xs, xa, xo⟩ := x
        obtain ⟨X, hX⟩ : ∃ X, keyOf ⟨xs, xa, xo⟩ = X := ⟨_, rfl⟩
        have hXb := keyOf_bd ⟨xs, xa, xo⟩
        rw [hX] at hXb HTk
        obtain ⟨hX1, hX2⟩ := hXb
        obtain ⟨m, hm⟩ : ∃ m : Nat, X % 12 = m := ⟨(X % 12).toNat, by omega⟩
        have hm12 : m < 12 := by omega
        have HXK := Lib.hid (fun w => show Calls Try.prog 22 #[.agg #[.int .i64 xs, .int .i64 xa, .int .i64 xo]] w fun e w' => e = .returned (.int .i64 X) ∧ Below w.heap.size w w' by have := c_PitchKey ⟨xs, xa, xo⟩ w; rw [hX] at this; exact this)
        have HCM := Lib.hid (fun w => show Calls Try.prog 45 #[.int .i64 X, .int .i64 12] w fun e w' => e = .returned (.int .i64 (m : Int)) ∧ w = w' by have := c_modulo X 12 w (by omega) (by omega) (by omega) (by omega); rw [hm] at this; exact this)
        have HM := Lib.hid hm
        clear hcc hX hm
        dsimp only at p0 p1 p2
        go_wp2_with fail
        (go_at_call 22; (with_reducible refine (HXK.out _).mono ?_); rintro e wq ⟨rfl, hbq⟩)
        have hHq := below_heap hbq (below_heap (bel1 wr (.cells #[.int .i64 xs, .int .i64 xa, .int .i64 xo] 32)) HH.out)
        have hzq := hbq.size
        rw [size_alloc'] at hzq
        have f0 := (cell_of_row wq w1.heap.size m cur _ (0, 0) hHq).trans (HV.out m hm12)
        have hfr := (blk_facts hHq).2
        have HB' := Lib.hid ((hbl.trans (Below.mono ((bel1 wr (.cells #[.int .i64 xs, .int .i64 xa, .int .i64 xo] 32)).trans (hbq.mono (by rw [size_alloc']; omega))) hz)).setCell (p := ⟨w1.heap.size, m, none⟩) (Nat.le_refl _) (.bool true))
        have HH' := Lib.hid (show (wq.setCell ⟨w1.heap.size, m, none⟩ (.bool true)).heap[w1.heap.size]? = some (.cells (cur.setIfInBounds m (.bool true)) 82 (0, 0)) by simp only [heap_setCell_get, if_true, hHq, Option.map_some])
        have hmI : (m : Int) < 12 := by omega
        clear hHq
        go_wp2_with (go_at_call 45; (with_reducible refine (HCM.out _).mono ?_); rintro e w' ⟨rfl, rfl⟩)
        go_roundw
        case rel =>
          refine ⟨k + 1, cur.setIfInBounds m (.bool true), by omega, by go_num, HH'.out, by rw [Array.size_setIfInBounds]; exact HS.out, fun c hc => ?_, HB'.out⟩
          rw [Array.getElem?_setIfInBounds, HTk.out c, HM.out]
          split
          · rename_i he
            subst he
            rw [if_pos (by rw [HS.out]; exact hm12)]
            simp
          · rename_i he
            rw [HV.out c hc, show ((m : Int) == (c : Int)) = false by simp; omega, Bool.or_false]
        case measure => simp [intOf]; omega
      · have hke : k = ns.length := by omega
        have HV := Lib.hid (show ∀ c, c < 12 → cur[c]? = some (.bool (hasCls ns c)) from fun c hc => by have := HV.out c hc; rwa [hke, List.take_length] at this)
        have l0 := (cell_of_row wr w1.heap.size 0 cur 82 (0, 0) HH.out).trans (HV.out 0 (by omega))
        have l1 := (cell_of_row wr w1.heap.size 1 cur 82 (0, 0) HH.out).trans (HV.out 1 (by omega))
        have l2 := (cell_of_row wr w1.heap.size 2 cur 82 (0, 0) HH.out).trans (HV.out 2 (by omega))
        have l3 := (cell_of_row wr w1.heap.size 3 cur 82 (0, 0) HH.out).trans (HV.out 3 (by omega))
        have l4 := (cell_of_row wr w1.heap.size 4 cur 82 (0, 0) HH.out).trans (HV.out 4 (by omega))
        have l5 := (cell_of_row wr w1.heap.size 5 cur 82 (0, 0) HH.out).trans (HV.out 5 (by omega))
        have l6 := (cell_of_row wr w1.heap.size 6 cur 82 (0, 0) HH.out).trans (HV.out 6 (by omega))
        have l7 := (cell_of_row wr w1.heap.size 7 cur 82 (0, 0) HH.out).trans (HV.out 7 (by omega))
        have l8 := (cell_of_row wr w1.heap.size 8 cur 82 (0, 0) HH.out).trans (HV.out 8 (by omega))
        have l9 := (cell_of_row wr w1.heap.size 9 cur 82 (0, 0) HH.out).trans (HV.out 9 (by omega))
        have l10 := (cell_of_row wr w1.heap.size 10 cur 82 (0, 0) HH.out).trans (HV.out 10 (by omega))
        have l11 := (cell_of_row wr w1.heap.size 11 cur 82 (0, 0) HH.out).trans (HV.out 11 (by omega))
        have HBo := Lib.hid (HB1.out.trans (hbl.mono HB1.out.size))
        obtain ⟨wo, rfl⟩ : ∃ wo : World, wo = wr := ⟨_, rfl⟩
        clear hke hbl
        go_wp2_with fail
        clear l0 l1 l2 l3 l4 l5 l6 l7 l8 l9 l10 l11
        have hzo := HBo.out.size
        go_loopw [6, 25] (fun o i wr => ∃ (c g cap : Nat), c ≤ 12 ∧ i = .int .i64 c ∧ o = .slice (some ⟨g, 0, none⟩) (clsTo ns c).length cap ∧ wr.ownsRow w.heap.size 3 1 (.slice (some ⟨g, 0, none⟩) (clsTo ns c).length cap) (clsTo ns c).length (intCells (clsTo ns c)) ∧ Below w.heap.size w wr) (fun _ i _ => 12 - (intOf i).toNat)
        case atStart => exact ⟨0, _, _, by omega, rfl, rfl, own_monoA (own_new wo 3 1) hzo, HBo.out.alloc hzo _⟩
        case round =>
          obtain ⟨c, g, cap, hc, rfl, rfl, hown, hbl⟩ := hrel
          have HOW := Lib.hid hown
          have hz := hbl.size
          clear hown
          by_cases hc12 : c < 12
          · have hcI : (c : Int) < 12 := by omega
            have hx : ∀ w, (Instr.index 82 (.agg #[.bool (hasCls ns 0), .bool (hasCls ns 1), .bool (hasCls ns 2), .bool (hasCls ns 3), .bool (hasCls ns 4), .bool (hasCls ns 5), .bool (hasCls ns 6), .bool (hasCls ns 7), .bool (hasCls ns 8), .bool (hasCls ns 9), .bool (hasCls ns 10), .bool (hasCls ns 11)]) (.int .i64 c)).run Try.prog w = .ok (.bool (hasCls ns c)) w := by
              have h12 : c = 0 ∨ c = 1 ∨ c = 2 ∨ c = 3 ∨ c = 4 ∨ c = 5 ∨ c = 6 ∨ c = 7 ∨ c = 8 ∨ c = 9 ∨ c = 10 ∨ c = 11 := by omega
              rcases h12 with rfl | rfl | rfl | rfl | rfl | rfl | rfl | rfl | rfl | rfl | rfl | rfl
              all_goals (intro w; rfl)
            have HLc := Lib.hid (clsTo_len ns c)
            cases hb : hasCls ns c
            · have HN := Lib.hid (cls_not hb)
              rw [hb] at hx
              clear hb
              go_wp2_with fail
              go_roundw
              case rel => exact ⟨c + 1, g, cap, by omega, by go_num, by rw [HN.out], by rw [HN.out]; exact HOW.out, hbl⟩
              case measure => simp [intOf]; omega
            · rw [hb] at hx
              have HOa := Lib.hid (HOW.out.alloc (.cells #[.int .i64 (c : Int)] 3))
              have HBa := Lib.hid (Below.alloc (B := w.heap.size) hbl hz (.cells #[.int .i64 (c : Int)] 3))
              go_wp2_with (at_builtin; go_loud (refine wp_appl (by rfl) (.tmp 30) (.tmp 32) 50 3 rfl _ 1 8 Try.underlying50 info_intK rfl (by decide) (by decide) w.heap.size g cap (clsTo ns c).length _ rfl HOa.out wr.heap.size 0 1 1 (intCells [(c : Int)]) rfl rfl (cells_new1i wr c) (intCells_one _) (by have := clsTo_len ns c; omega) (by simp only [size_alloc']; omega) ?_))
              intro g4 cap4 w4 hown4 hgr4 hat4 hlt4
              have HO4 := Lib.hid (cls_app hown4 hb)
              have HB4 := Lib.hid (bel_app HBa.out HOa.out hgr4 (Nat.le_refl _) (by simp only [size_alloc']; omega))
              clear hown4 hgr4 hat4
              go_wp2_with fail
              go_roundw
              case rel => exact ⟨c + 1, g4, cap4, by omega, by go_num, by rw [clsTo_succ, if_pos hb, List.length_append]; rfl, HO4.out, HB4.out⟩
              case measure => simp [intOf]; omega
          · obtain rfl : c = 12 := by omega
            go_wp2
            go_ret
            exact ⟨_, rfl, by rw [HF.out]; exact HOW.out, hbl⟩
end Go.Proofs.Ytiameebjcmnmeaa
