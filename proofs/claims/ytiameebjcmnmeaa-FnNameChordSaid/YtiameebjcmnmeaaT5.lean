/- DegreeOfChord of the reference. Conditions: none. -/
import Derived.Test.YtiameebjcmnmeaaT4
namespace Go.Proofs.Ytiameebjcmnmeaa
open Go.RowKit
set_option linter.unusedSimpArgs false
set_option linter.unusedVariables false
set_option maxHeartbeats 16000000
def degS (f : Int) (m : Bool) (l : List Pit) (d : Nat) : Bool := okS l (chordOn f m d false) || okS l (chordOn f m d true)
theorem degS_yes {f : Int} {m : Bool} {l : List Pit} (hl : arePits l 1 12 = true) (d : Nat) : degS f m l d = degAt f m l d := by
  unfold degS degAt; rw [okS_valid (arePits_mem hl), okS_valid (arePits_mem hl)]
theorem degS_no {f : Int} {m : Bool} {l : List Pit} (hlen : 1 ≤ l.length ∧ l.length ≤ 12) (hl : arePits l 1 12 = false) (d : Nat) : degS f m l d = false := by
  have : ∃ p ∈ l, pitchValid p = false := by
    by_cases h : ∃ p ∈ l, pitchValid p = false
    · exact h
    · exfalso
      have : arePits l 1 12 = true := arePits_iff.2 ⟨by omega, fun i hi => by
        cases hv : pitchValid l[i]
        · exact absurd ⟨_, List.getElem_mem hi, hv⟩ h
        · rfl⟩
      rw [this] at hl; cases hl
  obtain ⟨p, hp, hv⟩ := this
  unfold degS; rw [okS_bad hp hv, okS_bad hp hv]; rfl
theorem degS_hit {f : Int} {m : Bool} {l : List Pit} (hf : inB f (-7) 7 = true) (hlen : 1 ≤ l.length ∧ l.length ≤ 12) {d : Nat} (hd : d < 7) (hn : ∀ d', d' < d → degS f m l d' = false) (h : degS f m l d = true) : degF f m l = d := by
  cases hl : arePits l 1 12
  · rw [degS_no hlen hl] at h; cases h
  · rw [degF_yes hf hl]
    exact first7_hit hd (fun d' hd' => by rw [← degS_yes hl]; exact hn d' hd') (by rw [← degS_yes hl]; exact h)
theorem degS_none {f : Int} {m : Bool} {l : List Pit} (hf : inB f (-7) 7 = true) (hn : ∀ d', d' < 7 → degS f m l d' = false) : degF f m l = -1 := by
  cases hl : arePits l 1 12
  · exact degF_no (by rw [hl]; simp)
  · rw [degF_yes hf hl]
    exact first7_none (fun d' hd' => by rw [← degS_yes hl]; exact hn d' hd')
set_option maxRecDepth 100000 in
theorem c_sDegreeOfChord (f : Int) (m : Bool) (v : Value) (ns : List Pit) (w : World) (h : Rd w v 3 ns.length (pitCells ns)) :
    Calls Try.prog 32 #[.int .i64 f, .bool m, v] w fun e w' => e = .returned (.int .i64 (degF f m ns)) ∧ Below w.heap.size w w' := by
  have H := Lib.hid h
  obtain ⟨_, A, c, rfl, hnc, hcm, hA⟩ := h
  unfold maxLen at hcm
  have HAA := Lib.hid hA
  clear hA
  cases hf : inB f (-7) 7
  · have HF := Lib.hid (degF_no (m := m) (l := ns) (f := f) (by rw [hf]; simp))
    go_enter Try.func32, Try.ntmps32
    go_wp2_with (go_at_call 41; refine (c_l1In _ _ _ _).mono ?_; rintro e w' ⟨rfl, rfl⟩; rw [hf])
    go_ret
    exact ⟨ret_int HF.out.symm, Below.refl _ _⟩
  · cases hl : inB (ns.length : Int) 1 12
    · have HF := Lib.hid (degF_no (m := m) (l := ns) (f := f) (by unfold arePits; rw [hl]; simp))
      go_enter Try.func32, Try.ntmps32
      go_wp2_with (go_at_call 41; refine (c_l1In _ _ _ _).mono ?_; rintro e w' ⟨rfl, rfl⟩; first | rw [hf] | rw [hl])
      go_ret
      exact ⟨ret_int HF.out.symm, Below.refl _ _⟩
    · have HLen := Lib.hid (show 1 ≤ ns.length ∧ ns.length ≤ 12 by have := inB_iff.1 hl; omega)
      go_enter Try.func32, Try.ntmps32
      go_wp2_with (go_at_call 41; refine (c_l1In _ _ _ _).mono ?_; rintro e w' ⟨rfl, rfl⟩; first | rw [hf] | rw [hl])
      clear hl
      go_loopw [7] (fun i wr => ∃ d : Nat, d ≤ 7 ∧ i = .int .i64 d ∧ (∀ d', d' < d → degS f m ns d' = false) ∧ Below w.heap.size w wr) (fun i _ => 7 - (intOf i).toNat)
      case atStart => exact ⟨0, by omega, rfl, fun d' hd => absurd hd (by omega), Below.refl _ _⟩
      case round =>
        obtain ⟨d, hd, rfl, hno, hbd⟩ := hrel
        have HNO := Lib.hid hno
        clear hno
        by_cases hltd : d < 7
        · have hd6 : (d : Int) ≤ 6 := by omega
          obtain ⟨wd, rfl⟩ : ∃ wd : World, wd = wr := ⟨_, rfl⟩
          go_wp2_with fail
          go_loopw [8] (fun i wr => ∃ s : Nat, s ≤ 2 ∧ i = .int .i64 s ∧ ((0 < s → okS ns (chordOn f m d false) = false) ∧ (1 < s → okS ns (chordOn f m d true) = false)) ∧ Below w.heap.size w wr) (fun i _ => 2 - (intOf i).toNat)
          case atStart => exact ⟨0, by omega, rfl, ⟨fun h => absurd h (by omega), fun h => absurd h (by omega)⟩, hbd⟩
          case round =>
            obtain ⟨s, hs, rfl, hst, hbs⟩ := hrel
            have HST := Lib.hid hst
            clear hst
            obtain ⟨ws, rfl⟩ : ∃ ws : World, ws = wr := ⟨_, rfl⟩
            have hs3 : s = 0 ∨ s = 1 ∨ s = 2 := by omega
            rcases hs3 with rfl | rfl | rfl
            · obtain ⟨t, ht⟩ : ∃ t, chordOn f m (d : Int) false = t := ⟨_, rfl⟩
              have hlt4 : t.length ≤ 4 := by rw [← ht]; exact chordOn_len6 f m (d : Int) false
              have HTE := Lib.hid ht
              go_wp2_with fail
              (go_at_call 13; (with_reducible refine (c_sChordOn f m (d : Int) false _).mono ?_); rintro e w1 hpost; rw [ht] at hpost; obtain ⟨v1, rfl, ho1, hb1⟩ := hpost)
              have hbw1 := hbs.trans (hb1.mono hbs.size)
              have HT1 := Lib.hid (Rd.of_own ho1)
              obtain ⟨_, At, ct, rfl, hnt, hct, hAt⟩ := HT1.out
              unfold maxLen at hct
              have HTT := Lib.hid hAt
              clear ho1 hAt hb1 ht
              go_wp2_with fail
              go_loopw [10, 11] (fun o i wr => ∃ k : Nat, k ≤ ns.length ∧ i = .int .i64 k ∧ o = .bool ((ns.take k).all fun p => pitchValid p && hasT t p) ∧ Below w.heap.size w wr ∧ Below w1.heap.size w1 wr) (fun _ i _ => ns.length - (intOf i).toNat)
              case atStart => exact ⟨0, Nat.zero_le _, rfl, rfl, hbw1, Below.refl _ _⟩
              case round =>
                obtain ⟨k, hk, rfl, rfl, hbw, hbl⟩ := hrel
                have hz := hbl.size
                by_cases hlt : k < ns.length
                · obtain ⟨b1, off, rfl, hcc⟩ := HAA.out (by omega)
                  obtain ⟨p0, p1, p2⟩ := pit_at (fun j u hu => (hbw.cell (World.block_lt_of_cell? w _ (hcc j u hu))).trans (hcc j u hu)) k hlt
                  have HTk := Lib.hid (all_take_succ (fun p => pitchValid p && hasT t p) ns k hlt)
                  have HRt := Lib.hid (HT1.out.below (Nat.le_refl _) hbl)
                  have hk1 : (0 : Int) ≤ (k : Int) := by omega
                  have hk2 : (k : Int) < (ns.length : Int) := by omega
                  have hzw := hbw.size
                  generalize ns[k] = x at *
                  obtain ⟨xs, xa, xo⟩ := x
                  dsimp only at p0 p1 p2 HTk
                  clear hcc
                  cases ho : ((ns.take k).all fun p => pitchValid p && hasT t p)
                  · have HN := Lib.hid (show ((ns.take (k + 1)).all fun p => pitchValid p && hasT t p) = false by rw [HTk.out, ho]; rfl)
                    go_wp2_with fail
                    go_roundw
                    case rel => exact ⟨k + 1, by omega, by go_num, by rw [HN.out], hbw, hbl⟩
                    case measure => simp [intOf]; omega
                  · cases hv : pitchValid ⟨xs, xa, xo⟩
                    · have HN := Lib.hid (show ((ns.take (k + 1)).all fun p => pitchValid p && hasT t p) = false by rw [HTk.out, ho, hv]; rfl)
                      go_wp2_with fail
                      (go_at_call 54; (with_reducible refine (c_sPitchValid ⟨xs, xa, xo⟩ _).mono ?_); rintro e w3 ⟨rfl, hbq⟩; have hzq := hbq.size; (try simp only [size_alloc', size_setCell', size_drew', size_drewN'] at hzq); skip)
                      go_wp2_with fail
                      go_roundw
                      case rel => exact ⟨k + 1, by omega, by go_num, by rw [HN.out], hbw.trans (hbq.mono hzw), hbl.trans (hbq.mono hz)⟩
                      case measure => simp [intOf]; omega
                    · have HN := Lib.hid (show ((ns.take (k + 1)).all fun p => pitchValid p && hasT t p) = hasT t ⟨xs, xa, xo⟩ by rw [HTk.out, ho, hv]; rfl)
                      go_wp2_with fail
                      (go_at_call 54; (with_reducible refine (c_sPitchValid ⟨xs, xa, xo⟩ _).mono ?_); rintro e w3 ⟨rfl, hbq⟩; have hzq := hbq.size; (try simp only [size_alloc', size_setCell', size_drew', size_drewN'] at hzq); skip)
                      have p0 := below_cell hbq p0
                      have p1 := below_cell hbq p1
                      have p2 := below_cell hbq p2
                      have HRt3 := Lib.hid (HRt.out.below (Nat.le_refl _) hbq)
                      go_wp2_with fail
                      (go_at_call 59; (with_reducible refine (c_l10Has _ t ⟨xs, xa, xo⟩ _ HRt3.out).mono ?_); rintro e w4 ⟨rfl, hb4⟩)
                      go_wp2_with fail
                      go_roundw
                      case rel => exact ⟨k + 1, by omega, by go_num, by rw [HN.out], hbw.trans (Below.mono (hbq.trans (hb4.mono hbq.size)) hzw), hbl.trans (Below.mono (hbq.trans (hb4.mono hbq.size)) hz)⟩
                      case measure => simp [intOf]; omega
                · have hke : k = ns.length := by omega
                  rw [hke, List.take_length]
                  obtain ⟨first, hfirst⟩ : ∃ b, (ns.all fun p => pitchValid p && hasT t p) = b := ⟨_, rfl⟩
                  rw [hfirst]
                  have HFirst := Lib.hid hfirst
                  clear hfirst hke
                  go_wp2_with fail
                  go_loopw [10, 12] (fun o i wr => ∃ k : Nat, k ≤ t.length ∧ i = .int .i64 k ∧ o = .bool (first && (t.take k).all (hasT ns)) ∧ Below w.heap.size w wr ∧ Below w1.heap.size w1 wr) (fun _ i _ => t.length - (intOf i).toNat)
                  case atStart => exact ⟨0, Nat.zero_le _, rfl, by simp, hbw, hbl⟩
                  case round =>
                    clear hbl hbw hz
                    obtain ⟨k, hk, rfl, rfl, hbw, hbl⟩ := hrel
                    have hz := hbl.size
                    by_cases hlt : k < t.length
                    · obtain ⟨b1, off, rfl, hcc⟩ := HTT.out (by omega)
                      obtain ⟨p0, p1, p2⟩ := pit_at (fun j u hu => below_cell hbl (hcc j u hu)) k hlt
                      have HTk := Lib.hid (all_take_succ (hasT ns) t k hlt)
                      have HRn := Lib.hid (H.out.below (Nat.le_refl _) hbw)
                      have hk1 : (0 : Int) ≤ (k : Int) := by omega
                      have hk2 : (k : Int) < (t.length : Int) := by omega
                      have hzw := hbw.size
                      generalize t[k] = x at *
                      obtain ⟨xs, xa, xo⟩ := x
                      dsimp only at p0 p1 p2 HTk
                      clear hcc
                      cases ho : (first && (t.take k).all (hasT ns))
                      · have HN := Lib.hid (show (first && (t.take (k + 1)).all (hasT ns)) = false by rw [HTk.out, ← Bool.and_assoc, ho]; rfl)
                        go_wp2_with fail
                        go_roundw
                        case rel => exact ⟨k + 1, by omega, by go_num, by rw [HN.out], hbw, hbl⟩
                        case measure => simp [intOf]; omega
                      · have HN := Lib.hid (show (first && (t.take (k + 1)).all (hasT ns)) = hasT ns ⟨xs, xa, xo⟩ by rw [HTk.out, ← Bool.and_assoc, ho]; rfl)
                        go_wp2_with fail
                        (go_at_call 59; (with_reducible refine (c_l10Has _ ns ⟨xs, xa, xo⟩ _ HRn.out).mono ?_); rintro e w4 ⟨rfl, hb4⟩)
                        go_wp2_with fail
                        go_roundw
                        case rel => exact ⟨k + 1, by omega, by go_num, by rw [HN.out], hbw.trans (hb4.mono hzw), hbl.trans (hb4.mono hz)⟩
                        case measure => simp [intOf]; omega
                    · have hke : k = t.length := by omega
                      rw [hke, List.take_length]
                      have HOk := Lib.hid (show okS ns t = (first && t.all (hasT ns)) by unfold okS; rw [HFirst.out])
                      cases hb : (first && t.all (hasT ns))
                      · rw [hb] at HOk
                        clear hke
                        go_wp2_with fail
                        go_roundw
                        case rel => exact ⟨0 + 1, by omega, by go_num, ⟨fun _ => by rw [HTE.out]; exact HOk.out, fun h => absurd h (by omega)⟩, hbw⟩
                        case measure => simp [intOf]; try omega
                      · rw [hb] at HOk
                        have HR := Lib.hid (degS_hit hf HLen.out hltd HNO.out (show degS f m ns d = true by unfold degS; rw [HTE.out, HOk.out]; simp))
                        clear hke
                        go_wp2_with fail
                        go_ret
                        exact ⟨ret_int (by rw [HR.out]), hbw⟩
            · obtain ⟨t, ht⟩ : ∃ t, chordOn f m (d : Int) true = t := ⟨_, rfl⟩
              have hlt4 : t.length ≤ 4 := by rw [← ht]; exact chordOn_len6 f m (d : Int) true
              have HTE := Lib.hid ht
              go_wp2_with fail
              (go_at_call 13; (with_reducible refine (c_sChordOn f m (d : Int) true _).mono ?_); rintro e w1 hpost; rw [ht] at hpost; obtain ⟨v1, rfl, ho1, hb1⟩ := hpost)
              have hbw1 := hbs.trans (hb1.mono hbs.size)
              have HT1 := Lib.hid (Rd.of_own ho1)
              obtain ⟨_, At, ct, rfl, hnt, hct, hAt⟩ := HT1.out
              unfold maxLen at hct
              have HTT := Lib.hid hAt
              clear ho1 hAt hb1 ht
              go_wp2_with fail
              go_loopw [10, 11] (fun o i wr => ∃ k : Nat, k ≤ ns.length ∧ i = .int .i64 k ∧ o = .bool ((ns.take k).all fun p => pitchValid p && hasT t p) ∧ Below w.heap.size w wr ∧ Below w1.heap.size w1 wr) (fun _ i _ => ns.length - (intOf i).toNat)
              case atStart => exact ⟨0, Nat.zero_le _, rfl, rfl, hbw1, Below.refl _ _⟩
              case round =>
                obtain ⟨k, hk, rfl, rfl, hbw, hbl⟩ := hrel
                have hz := hbl.size
                by_cases hlt : k < ns.length
                · obtain ⟨b1, off, rfl, hcc⟩ := HAA.out (by omega)
                  obtain ⟨p0, p1, p2⟩ := pit_at (fun j u hu => (hbw.cell (World.block_lt_of_cell? w _ (hcc j u hu))).trans (hcc j u hu)) k hlt
                  have HTk := Lib.hid (all_take_succ (fun p => pitchValid p && hasT t p) ns k hlt)
                  have HRt := Lib.hid (HT1.out.below (Nat.le_refl _) hbl)
                  have hk1 : (0 : Int) ≤ (k : Int) := by omega
                  have hk2 : (k : Int) < (ns.length : Int) := by omega
                  have hzw := hbw.size
                  generalize ns[k] = x at *
                  obtain ⟨xs, xa, xo⟩ := x
                  dsimp only at p0 p1 p2 HTk
                  clear hcc
                  cases ho : ((ns.take k).all fun p => pitchValid p && hasT t p)
                  · have HN := Lib.hid (show ((ns.take (k + 1)).all fun p => pitchValid p && hasT t p) = false by rw [HTk.out, ho]; rfl)
                    go_wp2_with fail
                    go_roundw
                    case rel => exact ⟨k + 1, by omega, by go_num, by rw [HN.out], hbw, hbl⟩
                    case measure => simp [intOf]; omega
                  · cases hv : pitchValid ⟨xs, xa, xo⟩
                    · have HN := Lib.hid (show ((ns.take (k + 1)).all fun p => pitchValid p && hasT t p) = false by rw [HTk.out, ho, hv]; rfl)
                      go_wp2_with fail
                      (go_at_call 54; (with_reducible refine (c_sPitchValid ⟨xs, xa, xo⟩ _).mono ?_); rintro e w3 ⟨rfl, hbq⟩; have hzq := hbq.size; (try simp only [size_alloc', size_setCell', size_drew', size_drewN'] at hzq); skip)
                      go_wp2_with fail
                      go_roundw
                      case rel => exact ⟨k + 1, by omega, by go_num, by rw [HN.out], hbw.trans (hbq.mono hzw), hbl.trans (hbq.mono hz)⟩
                      case measure => simp [intOf]; omega
                    · have HN := Lib.hid (show ((ns.take (k + 1)).all fun p => pitchValid p && hasT t p) = hasT t ⟨xs, xa, xo⟩ by rw [HTk.out, ho, hv]; rfl)
                      go_wp2_with fail
                      (go_at_call 54; (with_reducible refine (c_sPitchValid ⟨xs, xa, xo⟩ _).mono ?_); rintro e w3 ⟨rfl, hbq⟩; have hzq := hbq.size; (try simp only [size_alloc', size_setCell', size_drew', size_drewN'] at hzq); skip)
                      have p0 := below_cell hbq p0
                      have p1 := below_cell hbq p1
                      have p2 := below_cell hbq p2
                      have HRt3 := Lib.hid (HRt.out.below (Nat.le_refl _) hbq)
                      go_wp2_with fail
                      (go_at_call 59; (with_reducible refine (c_l10Has _ t ⟨xs, xa, xo⟩ _ HRt3.out).mono ?_); rintro e w4 ⟨rfl, hb4⟩)
                      go_wp2_with fail
                      go_roundw
                      case rel => exact ⟨k + 1, by omega, by go_num, by rw [HN.out], hbw.trans (Below.mono (hbq.trans (hb4.mono hbq.size)) hzw), hbl.trans (Below.mono (hbq.trans (hb4.mono hbq.size)) hz)⟩
                      case measure => simp [intOf]; omega
                · have hke : k = ns.length := by omega
                  rw [hke, List.take_length]
                  obtain ⟨first, hfirst⟩ : ∃ b, (ns.all fun p => pitchValid p && hasT t p) = b := ⟨_, rfl⟩
                  rw [hfirst]
                  have HFirst := Lib.hid hfirst
                  clear hfirst hke
                  go_wp2_with fail
                  go_loopw [10, 12] (fun o i wr => ∃ k : Nat, k ≤ t.length ∧ i = .int .i64 k ∧ o = .bool (first && (t.take k).all (hasT ns)) ∧ Below w.heap.size w wr ∧ Below w1.heap.size w1 wr) (fun _ i _ => t.length - (intOf i).toNat)
                  case atStart => exact ⟨0, Nat.zero_le _, rfl, by simp, hbw, hbl⟩
                  case round =>
                    clear hbl hbw hz
                    obtain ⟨k, hk, rfl, rfl, hbw, hbl⟩ := hrel
                    have hz := hbl.size
                    by_cases hlt : k < t.length
                    · obtain ⟨b1, off, rfl, hcc⟩ := HTT.out (by omega)
                      obtain ⟨p0, p1, p2⟩ := pit_at (fun j u hu => below_cell hbl (hcc j u hu)) k hlt
                      have HTk := Lib.hid (all_take_succ (hasT ns) t k hlt)
                      have HRn := Lib.hid (H.out.below (Nat.le_refl _) hbw)
                      have hk1 : (0 : Int) ≤ (k : Int) := by omega
                      have hk2 : (k : Int) < (t.length : Int) := by omega
                      have hzw := hbw.size
                      generalize t[k] = x at *
                      obtain ⟨xs, xa, xo⟩ := x
                      dsimp only at p0 p1 p2 HTk
                      clear hcc
                      cases ho : (first && (t.take k).all (hasT ns))
                      · have HN := Lib.hid (show (first && (t.take (k + 1)).all (hasT ns)) = false by rw [HTk.out, ← Bool.and_assoc, ho]; rfl)
                        go_wp2_with fail
                        go_roundw
                        case rel => exact ⟨k + 1, by omega, by go_num, by rw [HN.out], hbw, hbl⟩
                        case measure => simp [intOf]; omega
                      · have HN := Lib.hid (show (first && (t.take (k + 1)).all (hasT ns)) = hasT ns ⟨xs, xa, xo⟩ by rw [HTk.out, ← Bool.and_assoc, ho]; rfl)
                        go_wp2_with fail
                        (go_at_call 59; (with_reducible refine (c_l10Has _ ns ⟨xs, xa, xo⟩ _ HRn.out).mono ?_); rintro e w4 ⟨rfl, hb4⟩)
                        go_wp2_with fail
                        go_roundw
                        case rel => exact ⟨k + 1, by omega, by go_num, by rw [HN.out], hbw.trans (hb4.mono hzw), hbl.trans (hb4.mono hz)⟩
                        case measure => simp [intOf]; omega
                    · have hke : k = t.length := by omega
                      rw [hke, List.take_length]
                      have HOk := Lib.hid (show okS ns t = (first && t.all (hasT ns)) by unfold okS; rw [HFirst.out])
                      cases hb : (first && t.all (hasT ns))
                      · rw [hb] at HOk
                        clear hke
                        go_wp2_with fail
                        go_roundw
                        case rel => exact ⟨1 + 1, by omega, by go_num, ⟨fun _ => HST.out.1 (by omega), fun _ => by rw [HTE.out]; exact HOk.out⟩, hbw⟩
                        case measure => simp [intOf]; try omega
                      · rw [hb] at HOk
                        have HR := Lib.hid (degS_hit hf HLen.out hltd HNO.out (show degS f m ns d = true by unfold degS; rw [HTE.out, HOk.out]; simp))
                        clear hke
                        go_wp2_with fail
                        go_ret
                        exact ⟨ret_int (by rw [HR.out]), hbw⟩
            · have HN := Lib.hid (show ∀ d', d' < d + 1 → degS f m ns d' = false from fun d' hd' => by
                rcases Nat.lt_succ_iff_lt_or_eq.1 hd' with h | rfl
                · exact HNO.out d' h
                · unfold degS; rw [HST.out.1 (by omega), HST.out.2 (by omega)]; rfl)
              go_wp2
              go_roundw
              case rel => exact ⟨d + 1, by omega, by go_num, HN.out, hbs⟩
              case measure => simp [intOf]; omega
        · obtain rfl : d = 7 := by omega
          have HR := Lib.hid (degS_none hf HNO.out)
          go_wp2
          go_ret
          exact ⟨ret_int (by rw [HR.out]), hbd⟩
end Go.Proofs.Ytiameebjcmnmeaa
