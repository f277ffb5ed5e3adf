/- The walk of FnReadNote. Conditions: on the world: the library's variables are at hand. -/
import Derived.Test.YtaikcpidijekpaaDoorU0
namespace Go.Proofs.YtaikcpidijekpaaDoor
open Go.RowKit
set_option linter.unusedSimpArgs false
set_option linter.unusedVariables false
set_option maxHeartbeats 4000000
set_option maxRecDepth 100000
theorem at_strs (ls : List (List UInt8)) {W : World} {b : Nat} {T : TypeId} (h : W.heap[b]? = some (.cells (ls.map fun x => Value.string ⟨x.toArray⟩).toArray T (0, 0))) (x : Int) (h0 : 0 ≤ x) (h1 : x < ls.length) :
    ∃ y : List UInt8, W.cell? ⟨b, x.toNat, none⟩ = some (.string ⟨y.toArray⟩) ∧ y ∈ ls := by
  have hx : x.toNat < ls.length := by omega
  refine ⟨ls[x.toNat], ?_, List.getElem_mem _⟩
  rw [cell_of_row W b x.toNat _ T (0, 0) h]
  simp [hx]
theorem rdN_bad {l : List UInt8} (h : (rdN l).2 = false) : rdN l = (⟨false, ⟨0, 0, 0⟩, 0, false⟩, false) := by
  unfold rdN at h ⊢
  split
  · rename_i he
    rw [dif_pos he] at h
    cases h
  · rfl
def DStr (m : Nat) (w : World) (e : Ending) (w' : World) : Prop := ∃ l : List UInt8, e = .returned (.string ⟨l.toArray⟩) ∧ l.length ≤ m ∧ Below w.heap.size w w'
theorem c_DrawReadNote (v : Value) (bs : List Int) (w : World) (h : Rd w v 1 bs.length (byteCells bs)) (hb : ∀ x ∈ bs, 0 ≤ x ∧ x ≤ 255) :
    Calls Tryd.prog 19 #[v] w (DStr 20 w) := by
  go_enter Tryd.func19, Tryd.ntmps19
  go_wp2_with fail
  (go_at_call 38; (with_reducible refine (c_open _ _ _ h hb).mono ?_); rintro e w1 ⟨g, rfl, hg, hr1, hbq⟩)
  have hr2 := hr1.mono (m' := 2 + 18) (by omega)
  have hz1 := hbq.size
  clear hr1
  go_wp2_with fail
  (go_at_call 39; (with_reducible refine (c_l20Note g 2 0 _ hr2 (by omega) (by omega)).mono ?_); rintro e w2 ⟨n, rfl, hsm, hrq, hgq⟩)
  have HB2 := Lib.hid (show Below w.heap.size w w2 from below_of_kp hbq hgq hg hz1)
  have hg2 := hrq.lt
  have HT := Lib.hid (fun W => c_sNoteText n W)
  have hlt := noteT_len n
  generalize noteT n = s at *
  obtain ⟨r, ⟨ps, pa, po⟩, t, d⟩ := n
  clear hsm hgq hbq
  go_wp2_with fail
  (go_at_call 10; (with_reducible refine (HT.out _).mono ?_); rintro e w3 ⟨rfl, hb3⟩)
  have hr3 : Rdr w3 g (1 + 1) := (hrq.below hb3 hg2)
  have HB3 := Lib.hid (HB2.out.trans (hb3.mono HB2.out.size))
  have hz3 := HB3.out.size
  clear hrq hb3
  go_wp2_with fail
  (go_at_call 50; (with_reducible refine (c_odd g 1 3 _ hr3 (by omega) (by omega)).mono ?_); rintro e w4 ⟨b4, rfl, hrq, hgq⟩)
  have HB4 := Lib.hid (show Below w.heap.size w w4 from below_of_kp HB3.out hgq hg hz3)
  have hr4 : Rdr w4 g (0 + 1) := hrq
  have hz4 := HB4.out.size
  clear hrq hgq
  cases b4
  · go_wp2_with fail
    go_ret
    exact ⟨s, rfl, by omega, HB4.out⟩
  · have hg4 := hr4.lt
    have ha1 := fun W => run_add_snoc (P := Tryd.prog) s 32 (by omega) W
    have ha2 := fun W => run_add_snoc (P := Tryd.prog) s 126 (by omega) W
    go_wp2_with fail
    (go_at_call 40; (with_reducible refine (c_pick g (0) _ _ ?_ (by omega) (by omega)).mono ?_); (focus (repeat' (first | (with_reducible assumption) | (with_reducible refine Rdr.alloc ?_ _) | (with_reducible refine Rdr.setCell ?_ ?_ _) | (with_reducible refine Rdr.drewN ?_ _) | (with_reducible refine Rdr.drew ?_) | (show _ < _; first | omega | (simp only [size_alloc', size_setCell', size_drew', size_drewN'] at *; omega))))); rintro e w5 ⟨x5, rfl, hx5, hy5, hz5, hrq, hgq⟩; have hsq := hgq.size; (try simp only [size_alloc', size_setCell', size_drew', size_drewN'] at hsq); (try (refine keep_heap_g (b := w4.heap.size) hgq ?_ ?_ ?_; (first | omega | (simp only [size_alloc', size_setCell', size_drew', size_drewN']; omega)); omega; intro hkq; simp only [heap_alloc_get, heap_setCell_get, heap_drew_get, heap_drewN_get, size_alloc', size_setCell', size_drew', size_drewN', nat_simp1, nat_simp2, nat_simp3, nat_simp4, nat_simp5, if_true, if_false, Option.map_some, *] at hkq)); (try (refine ne_cps (a := w4.heap.size) (b := w5.heap.size) ?_ ?_; omega; intro _ _)); (try (refine ne_cps (a := w4.heap.size) (b := w5.heap.size + 1) ?_ ?_; omega; intro _ _)); (try (refine ne_cps (a := w4.heap.size) (b := w5.heap.size + 1 + 1) ?_ ?_; omega; intro _ _)); skip)
    have hx5' := hy5 (by omega)
    obtain ⟨y5, hc5, hm5⟩ := at_strs [[], [67, 52], [67, 52, 47], [67, 52, 47, 48, 49, 50], [114, 47, 49, 50, 126], [67, 52, 47, 49, 50, 126, 126], [47, 49, 50], s ++ [32], [67, 52, 47, 56, 48, 48], [120, 47, 49, 50], [67, 52, 47, 49, 50, 47], s ++ [126]] (W := w5) (b := w4.heap.size) (T := 9) ((hgq.block w4.heap.size (by rw [size_alloc']; omega) (by intro hh; cases hh; omega)).trans (heap_alloc_new w4 _)) x5 hx5 (by simpa using hx5')
    have hyl : y5.length ≤ 20 := by
      simp only [List.mem_cons, List.not_mem_nil, or_false] at hm5
      rcases hm5 with rfl | rfl | rfl | rfl | rfl | rfl | rfl | rfl | rfl | rfl | rfl | rfl <;> simp <;> omega
    have HB5 := Lib.hid (show Below w.heap.size w w5 from below_of_kp (HB4.out.alloc hz4 _) hgq hg (by rw [size_alloc']; omega))
    clear hm5 hgq
    go_wp2_with fail
    go_ret
    exact ⟨y5, rfl, hyl, HB5.out⟩
theorem walk_FnReadNote (w : World) (v : Value) (bs : List Int) (h : Rd w v 1 bs.length (byteCells bs)) (hb : ∀ x ∈ bs, 0 ≤ x ∧ x ≤ 255) (hw : Wd w) :
    Calls Tryd.prog 6 #[v] w fun e w' => e = .returned (.bool true) ∧ Below w.heap.size w w' := by
  have h' := Lib.hid h
  have HW := Lib.hid (fun w' (h : Below w.heap.size w w') => hw.bel h)
  clear hw
  obtain ⟨_, A, c0, rfl, hnc, hcm, hA⟩ := h
  unfold maxLen at hcm
  clear hA
  by_cases hlen : bs.length ≤ 1048576
  · go_enter Tryd.func6, Tryd.ntmps6
    go_wp2_with fail
    (go_at_call 19; (with_reducible refine (c_DrawReadNote _ bs _ h'.out hb).mono ?_); rintro e w1 ⟨l, rfl, hl, hb1⟩)
    have S := hb1
    clear hb1
    have HS := Lib.hid (fun W => c_sReadNote l W (by omega))
    have HI := Lib.hid (fun W h => c_iReadNote l W (by omega) h)
    have HBad := Lib.hid (fun h : (rdN l).2 = false => rdN_bad h)
    have HOK := Lib.hid (fun h : (rdN l).2 = true => rdN_ok h)
    generalize rdN l = rn at *
    obtain ⟨⟨r, ⟨s, a, o⟩, t, d⟩, ok⟩ := rn
    have hnq := fun W => run_neq_nt1 r s a o t d W
    go_wp2_with fail
    (go_at_call 16; (with_reducible refine (HI.out _ (HW.out _ S)).mono ?_); rintro e w2 ⟨rfl, hb2⟩)
    have S := S.trans (hb2.mono S.size)
    have HA2 := Lib.hid (heap_alloc_new w2 (.cells #[.bool r, .int .i64 s, .int .i64 a, .int .i64 o, .int .i64 t, .bool d] 29))
    have S := S.alloc S.size (.cells #[.bool r, .int .i64 s, .int .i64 a, .int .i64 o, .int .i64 t, .bool d] 29)
    go_wp2_with fail
    (go_at_call 17; (with_reducible refine (HS.out _).mono ?_); rintro e w3 ⟨rfl, hb3⟩)
    have S := S.trans (hb3.mono S.size)
    have hA3 := below_heap hb3 HA2.out
    have hz3 : w2.heap.size < w3.heap.size := (Array.getElem?_eq_some_iff.1 hA3).1
    have hA4 := below_heap (bel1 w3 (.cells #[.bool r, .int .i64 s, .int .i64 a, .int .i64 o, .int .i64 t, .bool d] 29)) hA3
    have HA4 := Lib.hid hA4
    obtain ⟨_, _⟩ := blk_facts hA3
    obtain ⟨_, _⟩ := blk_facts hA4
    have S := S.alloc S.size (.cells #[.bool r, .int .i64 s, .int .i64 a, .int .i64 o, .int .i64 t, .bool d] 29)
    cases ok
    · have hbd := HBad.out rfl
      simp only [Prod.mk.injEq, Nt.mk.injEq, Pit.mk.injEq, and_true] at hbd
      obtain ⟨rfl, ⟨rfl, rfl, rfl⟩, rfl, rfl⟩ := hbd
      have heq := fun W => run_eql_nt1 false 0 0 0 0 false W
      go_wp2_with fail
      (go_at_call 15; (with_reducible refine (c_alive _).mono ?_); rintro e w5 ⟨rfl, hb5⟩)
      have S := S.trans (hb5.mono S.size)
      go_wp2_with fail
      go_ret
      exact ⟨rfl, S⟩
    · obtain ⟨hnv, hnt⟩ := HOK.out rfl
      have HNM := Lib.hid (show rdN (l ++ [47]) = (⟨false, ⟨0, 0, 0⟩, 0, false⟩, false) from rdN_no (fun n hv h => noteT_last hv l h))
      have HR5 := Lib.hid (fun W h => c_iReadNote (l ++ [47]) W (by simp; omega) h)
      rw [HNM.out] at HR5
      have HT := Lib.hid (fun W h => c_iNoteText ⟨r, ⟨s, a, o⟩, t, d⟩ W h)
      rw [hnt] at HT
      have ha1 := fun W => run_add_snoc (P := Tryd.prog) l 47 (by omega) W
      clear hnv hnt
      go_wp2_with fail
      (go_at_call 16; (with_reducible refine (HR5.out _ (HW.out _ S)).mono ?_); rintro e w5 ⟨rfl, hb5⟩)
      have S := S.trans (hb5.mono S.size)
      have hA5 := below_heap hb5 HA4.out
      obtain ⟨_, _⟩ := blk_facts hA5
      have hz5 : w2.heap.size < w5.heap.size := (Array.getElem?_eq_some_iff.1 hA5).1
      have hA6 := below_heap (bel1 w5 (.cells #[.bool false, .int .i64 0, .int .i64 0, .int .i64 0, .int .i64 0, .bool false] 29)) hA5
      obtain ⟨_, _⟩ := blk_facts hA6
      have S := S.alloc S.size (.cells #[.bool false, .int .i64 0, .int .i64 0, .int .i64 0, .int .i64 0, .bool false] 29)
      go_wp2_with fail
      (go_at_call 12; (with_reducible refine (HT.out _ (HW.out _ S).tab).mono ?_); rintro e w6 ⟨rfl, hb6⟩)
      have S := S.trans (hb6.mono S.size)
      go_wp2_with fail
      go_ret
      exact ⟨rfl, S⟩
  · go_enter Tryd.func6, Tryd.ntmps6
    go_wp2_with fail
    go_ret
    exact ⟨rfl, Below.refl _ _⟩
end Go.Proofs.YtaikcpidijekpaaDoor
