/- Sets of tones: tonesOf, sameTones. Conditions: pitches' numbers fit in 64 bits. -/
import Derived.Test.YtiameebjcmnmeaaT0
namespace Go.Proofs.Ytiameebjcmnmeaa
open Go.RowKit
open Go.Maps (Keyed)
set_option linter.unusedSimpArgs false
set_option linter.unusedVariables false
set_option maxHeartbeats 8000000
theorem c_toneOf (p : Pit) (w : World) :
    Calls Try.prog 49 #[p.v] w fun e w' => e = .returned (tv p.step p.alter) ∧ Below w.heap.size w w' := by
  obtain ⟨s, a, o⟩ := p
  go_enter Try.func49, Try.ntmps49
  go_wp2
  (refine bodyPost_ret (results_cell_row rfl _ _ (w.heap.size + 1) 67 #[.int .i64 s, .int .i64 a] (0, 0) _ rfl ?_ Try.underlying67 rfl (by kernel_rfl)) rfl ⟨rfl, ?_⟩)
  · (simp only [heap_alloc_get, heap_setCell_get, heap_drew_get, heap_drewN_get, size_alloc', size_setCell', size_drew', size_drewN', nat_simp1, nat_simp2, nat_simp3, nat_simp4, nat_simp5, if_true, if_false, Option.map_some, *]; first | done | rfl | simp)
  · (repeat' (first | (with_reducible exact Below.refl _ _) | (with_reducible refine Below.setCell ?_ ?_ _) | (with_reducible refine Below.alloc ?_ ?_ _) | (with_reducible refine Below.drew ?_) | (with_reducible refine below_drewN ?_ _) | (with_reducible refine Below.trans ?_ (Below.mono (by with_reducible assumption) ?_)) | omega | (simp only [size_alloc', size_setCell', size_drew', size_drewN'] at *; omega)))
theorem WfP.take {l : List Pit} (h : WfP l) {k : Nat} : WfP (l.take k) := fun p hp => h p (List.mem_of_mem_take hp)
theorem setP_take_succ (l : List Pit) (k : Nat) (h : k < l.length) : setP (l.take (k + 1)) = (setP (l.take k)).put (tLit l[k].step l[k].alter) (.lit (.bool true)) := by
  rw [List.take_succ_eq_append_getElem h, setP_snoc]
theorem c_tonesOf (v : Value) (ns : List Pit) (w : World) (h : Rd w v 3 ns.length (pitCells ns)) (hn : ns.length ≤ 1048576) (hg : WfP ns) :
    Calls Try.prog 64 #[v] w fun e w' => ∃ b, e = .returned (.map (some b)) ∧ w.heap.size ≤ b ∧ w'.ownsMap Try.prog 67 tR b ns.length (setP ns) ∧ Below w.heap.size w w' := by
  obtain ⟨_, A, c, rfl, hnc, hcm, hA⟩ := h
  unfold maxLen at hcm
  have HAA := Lib.hid hA
  have HG := Lib.hid hg
  have hmm := @run_makeMap Try.prog
  have HM0 := Lib.hid (World.ownsMap_made w Try.prog 67 tR)
  clear hA hg
  go_enter Try.func64, Try.ntmps64
  go_wp2_with fail
  clear hmm
  go_loopw [9] (fun i wr => ∃ k : Nat, k ≤ ns.length ∧ i = .int .i64 k ∧ wr.ownsMap Try.prog 67 tR w.heap.size k (setP (ns.take k)) ∧ Below w.heap.size w wr) (fun i _ => ns.length - (intOf i).toNat)
  case atStart => exact ⟨0, Nat.zero_le _, rfl, HM0.out, bel1 _ _⟩
  case round =>
    obtain ⟨k, hk, rfl, hown, hbl⟩ := hrel
    have HO := Lib.hid hown
    have hz := hbl.size
    have hlt0 := hown.lt
    clear hown
    by_cases hlt : k < ns.length
    · obtain ⟨b1, off, rfl, hcc⟩ := HAA.out (by omega)
      obtain ⟨p0, p1, p2⟩ := pit_at (fun j u hu => (hbl.cell (World.block_lt_of_cell? w _ (hcc j u hu))).trans (hcc j u hu)) k hlt
      have HSt := Lib.hid (setP_take_succ ns k hlt)
      obtain ⟨hw1, hw2⟩ := HG.out ns[k] (List.getElem_mem hlt)
      have hk1 : (0 : Int) ≤ (k : Int) := by omega
      have hk2 : (k : Int) < (ns.length : Int) := by omega
      generalize ns[k] = x at *
      obtain ⟨xs, xa, xo⟩ := x
      dsimp only at p0 p1 p2 hw1 hw2 HSt
      have HKey := Lib.hid (tone_key hw1 hw2)
      clear hcc hw1 hw2
      go_wp2_with fail
      (go_at_call 49; (with_reducible refine (c_toneOf ⟨xs, xa, xo⟩ _).mono ?_); rintro e wq ⟨rfl, hbq⟩)
      have hzq := hbq.size
      rw [size_alloc'] at hzq
      have HO2 := Lib.hid ((HO.out.alloc (.cells #[.int .i64 xs, .int .i64 xa, .int .i64 xo] 32)).kept (row := none) ⟨hbq.os, hbq.tape, hbq.output, hbq.size, fun i hi _ => hbq.block i hi⟩ (by simp))
      have HB2 := Lib.hid ((hbl.alloc hz (.cells #[.int .i64 xs, .int .i64 xa, .int .i64 xo] 32)).trans (hbq.mono (by rw [size_alloc']; omega)))
      go_wp2_with (at_mapUpdate; go_loud (refine wpList_mapUpdate_own _ rfl _ _ _ 86 rfl 67 4 tone_law Try.underlying86 tR w.heap.size k _ rfl HO2.out (by unfold maxLen; omega) _ _ (tLit xs xa) rfl rfl HKey.out _ [] (plainElem_bool Try.underlying4 true) ?_))
      intro w3 hown3 hgr3
      have HO3 := Lib.hid hown3
      have HB3 := Lib.hid (show Below w.heap.size w w3 from HB2.out.trans ⟨hgr3.os, hgr3.tape, hgr3.output, hgr3.size, fun i hi => hgr3.block i (by omega) (by intro hh; cases hh; omega)⟩)
      clear hown3 hgr3
      go_wp2_with fail
      go_roundw
      case rel => exact ⟨k + 1, by omega, by go_num, by rw [HSt.out]; exact HO3.out, HB3.out⟩
      case measure => simp [intOf]; omega
    · have hke : k = ns.length := by omega
      have HO := Lib.hid (show wr.ownsMap Try.prog 67 tR w.heap.size ns.length (setP ns) by have := HO.out; rwa [hke, List.take_length] at this)
      go_wp2_with fail
      go_ret
      exact ⟨w.heap.size, rfl, Nat.le_refl _, HO.out, hbl⟩
end Go.Proofs.Ytiameebjcmnmeaa
