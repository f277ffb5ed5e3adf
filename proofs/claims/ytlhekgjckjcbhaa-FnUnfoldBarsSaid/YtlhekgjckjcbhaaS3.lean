/- Lists of sections: reading, sizes, copies, comparing; validity on both sides; the walk of FnExactSectionsValid. Conditions: none. -/
import Derived.Test.YtlhekgjckjcbhaaS2
namespace Go.Proofs.Ytlhekgjckjcbhaa
open Go.RowKit Go.Deep
set_option linter.unusedSimpArgs false
set_option linter.unusedVariables false
set_option maxHeartbeats 4000000

/-- The plain data of a section. -/
structure SD where
  bars : Int
  times : Int
  l : List Int
def Sec.d (s : Sec) : SD := ⟨s.bars, s.times, s.l⟩
def SD.ok (s : SD) : Bool := secOk s.bars s.times s.l
def secsOk (ds : List SD) : Bool := decide (ds.length ≤ 8) && ds.all SD.ok
theorem Sec.cells_len (s : Sec) : s.cells.length = 3 := rfl
abbrev secCells (l : List Sec) : List Value := cellsOf Sec.cells l
def SRd (w : World) (s : Sec) : Prop := Rd w s.v 1 s.l.length (intCells s.l)
/-- A slice of sections, and the endings of each, as they read. -/
def RdS (w : World) (v : Value) (ss : List Sec) : Prop := Rd w v 3 ss.length (secCells ss) ∧ ∀ s ∈ ss, SRd w s
theorem RdS.later {w w' : World} {v : Value} {ss : List Sec} (h : RdS w v ss) (hb : Below w.heap.size w w') : RdS w' v ss :=
  ⟨h.1.below (Nat.le_refl _) hb, fun s hs => Rd.below (h.2 s hs) (Nat.le_refl _) hb⟩
theorem secsOk_iff {ds : List SD} : secsOk ds = true ↔ ds.length ≤ 8 ∧ ∀ i (h : i < ds.length), ds[i].ok = true := by
  unfold secsOk
  rw [Bool.and_eq_true, decide_eq_true_iff, List.all_eq_true]
  refine and_congr_right fun _ => ⟨fun h i hi => h _ (List.getElem_mem hi), fun h x hx => ?_⟩
  obtain ⟨i, hi, rfl⟩ := List.getElem_of_mem hx
  exact h i hi
theorem secsOk_map {ss : List Sec} : secsOk (ss.map Sec.d) = true ↔ ss.length ≤ 8 ∧ ∀ i (h : i < ss.length), ss[i].d.ok = true := by
  rw [secsOk_iff]
  simp only [List.length_map, List.getElem_map]
theorem secsOk_no {ds : List SD} {k : Nat} (hk : k < ds.length) (h : ds[k].ok = false) : secsOk ds = false := by
  cases hv : secsOk ds
  · rfl
  · rw [(secsOk_iff.1 hv).2 k hk] at h; cases h
theorem sec_at {w : World} {b off : Nat} {ss : List Sec} (hc : ∀ j u, (secCells ss)[j]? = some u → w.cell? ⟨b, off + j, none⟩ = some u) (k : Nat) (hk : k < ss.length) :
    w.cell? ⟨b, off + k * 3, none⟩ = some (.int .i64 ss[k].bars) ∧ w.cell? ⟨b, off + k * 3 + 1, none⟩ = some (.int .i64 ss[k].times) ∧ w.cell? ⟨b, off + k * 3 + 2, none⟩ = some ss[k].v := by
  have h := fun j (hj : j < 3) => cellsOf_get Sec.cells 3 Sec.cells_len ss k j hj hk
  refine ⟨hc (k * 3 + 0) _ (h 0 (by omega)), ?_, ?_⟩
  · rw [Nat.add_assoc]; exact hc (k * 3 + 1) _ (h 1 (by omega))
  · rw [Nat.add_assoc]; exact hc (k * 3 + 2) _ (h 2 (by omega))
section
variable {H : Type} {enc : TypeId × Value → H} {w : World} {base : Nat} {spare : Nat → Bool} {held : Bool}
theorem read_secs {fuel : Nat} {cs : List Value} {x : DataW H × List MemPlace} (h : DataW.trod enc Try.prog w base spare held fuel 46 cs = some x) :
    ∃ (v : Value) (l : List Sec), cs = [v] ∧ Rd w v 3 l.length (secCells l) ∧ ∀ a ∈ l, a.Good w :=
  read_slice Sec.cells 3 Sec.cells_len (by omega) (fun s => s.Good w) Try.underlying46 (by kernel_rfl) (fun _ _ _ => read_sec) h
end
theorem RdS.of_good {w : World} {v : Value} {ss : List Sec} (h : Rd w v 3 ss.length (secCells ss)) (g : ∀ a ∈ ss, a.Good w) : RdS w v ss := ⟨h, fun s hs => (g s hs).2.2.1⟩
def szGo : Nat → List Sec → Option Nat
  | m, [] => some m
  | m, s :: r => if s.l.length ≤ m then szGo (m - s.l.length) r else none
def szS (m : Nat) (ss : List Sec) : Option Nat := if ss.length ≤ m then szGo (m - ss.length) ss else none
theorem szGo_some : ∀ (ss : List Sec) (m r : Nat), szGo m ss = some r → r ≤ m ∧ ∀ s ∈ ss, s.l.length ≤ m := by
  intro ss
  induction ss with
  | nil => intro m r h; simp [szGo] at h; subst h; simp
  | cons s ss ih =>
    intro m r h
    unfold szGo at h
    split at h
    · obtain ⟨h1, h2⟩ := ih _ _ h
      refine ⟨by omega, fun x hx => ?_⟩
      rcases List.mem_cons.1 hx with rfl | hx
      · assumption
      · have := h2 x hx; omega
    · cases h
theorem szS_some {m r : Nat} {ss : List Sec} (h : szS m ss = some r) : ss.length ≤ m ∧ r ≤ m ∧ ∀ s ∈ ss, s.l.length ≤ m := by
  unfold szS at h
  split at h
  · obtain ⟨h1, h2⟩ := szGo_some _ _ _ h
    exact ⟨by assumption, by omega, fun s hs => by have := h2 s hs; omega⟩
  · cases h
theorem szGo_drop (ss : List Sec) (m k : Nat) (hk : k < ss.length) : szGo m (ss.drop k) = if ss[k].l.length ≤ m then szGo (m - ss[k].l.length) (ss.drop (k + 1)) else none := by
  rw [List.drop_eq_getElem_cons hk, szGo]
def szVal : Option Nat → Int
  | some r => (r : Int)
  | none => -1
theorem c_szSectionS (v : Value) (ss : List Sec) (m : Nat) (w : World) (h : RdS w v ss) (hm : m ≤ 1048576) :
    Calls Try.prog 24 #[v, .int .i64 m] w fun e w' => e = .returned (.int .i64 (szVal (szS m ss))) ∧ Below w.heap.size w w' := by
  obtain ⟨⟨_, A, c, rfl, hnc, hcm, hA⟩, hg⟩ := h
  unfold maxLen at hcm
  have HG := Lib.hid hg
  clear hg
  by_cases hl : ss.length ≤ m
  · have HS := Lib.hid (show szS m ss = szGo (m - ss.length) ss by unfold szS; rw [if_pos hl])
    go_enter Try.func24, Try.ntmps24
    go_wp2
    go_loopw [1, 5] (fun t i wr => ∃ k q : Nat, k ≤ ss.length ∧ i = .int .i64 k ∧ t = .int .i64 q ∧ q ≤ m ∧ szGo q (ss.drop k) = szS m ss ∧ Below w.heap.size w wr) (fun _ i _ => ss.length - (intOf i).toNat)
    case atStart => exact ⟨0, m - ss.length, Nat.zero_le _, rfl, by rw [Int.ofNat_sub hl], by omega, by rw [List.drop_zero, HS.out], Below.refl _ _⟩
    case round =>
      obtain ⟨k, q, hk, rfl, rfl, hq, hrec, hbl⟩ := hrel
      have hz := hbl.size
      have HR := Lib.hid hrec
      clear hrec
      by_cases hlt : k < ss.length
      · obtain ⟨b, off, rfl, hcc⟩ := hA (by omega)
        obtain ⟨c0, c1, c2⟩ := sec_at (rd_later hbl hcc) k hlt
        have HX := Lib.hid (Rd.below (HG.out _ (List.getElem_mem hlt)) (Nat.le_refl _) hbl)
        have HD := Lib.hid (szGo_drop ss q k hlt)
        generalize ss[k] = s at *
        obtain ⟨sb, st, sv, sl⟩ := s
        clear hA hcc
        by_cases hn : sl.length ≤ q
        · have HV := Lib.hid (show (if sl.length ≤ q then ((q - sl.length : Nat) : Int) else -1) = ((q - sl.length : Nat) : Int) from if_pos hn)
          go_wp2_with fail
          (go_at_call 55; (with_reducible refine (c_szSection sb st _ sl.length q _ _ HX.out (by omega)).mono ?_); rintro e wq ⟨rfl, hbq⟩; rw [HV.out])
          go_wp2
          go_roundw
          case rel => exact ⟨k + 1, q - sl.length, by omega, by go_num, rfl, by omega, by rw [← HR.out, HD.out]; exact (if_pos hn).symm, by (repeat' (first | (with_reducible exact Below.refl _ _) | (with_reducible refine Below.setCell ?_ ?_ _) | (with_reducible refine Below.alloc ?_ ?_ _) | (with_reducible refine Below.drew ?_) | (with_reducible refine below_drewN ?_ _) | (with_reducible refine Below.trans ?_ (Below.mono (by with_reducible assumption) ?_)) | omega | (simp only [size_alloc', size_setCell', size_drew', size_drewN'] at *; omega)))⟩
          case measure => simp [intOf]; omega
        · have HV := Lib.hid (show (if sl.length ≤ q then ((q - sl.length : Nat) : Int) else -1) = -1 from if_neg hn)
          have HZ := Lib.hid (show szVal (szS m ss) = -1 by rw [← HR.out, HD.out]; show szVal (if _ then _ else _) = _; rw [if_neg hn]; rfl)
          go_wp2_with fail
          (go_at_call 55; (with_reducible refine (c_szSection sb st _ sl.length q _ _ HX.out (by omega)).mono ?_); rintro e wq ⟨rfl, hbq⟩; rw [HV.out])
          go_wp2
          go_ret
          exact ⟨ret_int HZ.out.symm, by (repeat' (first | (with_reducible exact Below.refl _ _) | (with_reducible refine Below.setCell ?_ ?_ _) | (with_reducible refine Below.alloc ?_ ?_ _) | (with_reducible refine Below.drew ?_) | (with_reducible refine below_drewN ?_ _) | (with_reducible refine Below.trans ?_ (Below.mono (by with_reducible assumption) ?_)) | omega | (simp only [size_alloc', size_setCell', size_drew', size_drewN'] at *; omega)))⟩
      · clear hA
        go_wp2
        go_ret
        exact ⟨ret_int (by rw [← HR.out, List.drop_eq_nil_of_le (by omega)]; rfl), hbl⟩
  · have HZ := Lib.hid (show szVal (szS m ss) = -1 by unfold szS; rw [if_neg hl]; rfl)
    clear hA
    go_enter Try.func24, Try.ntmps24
    go_wp2
    go_ret
    exact ⟨ret_int HZ.out.symm, Below.refl _ _⟩
theorem c_sSectionsValid (v : Value) (ss : List Sec) (w : World) (h : RdS w v ss) :
    Calls Try.prog 56 #[v] w fun e w' => e = .returned (.bool (secsOk (ss.map Sec.d))) ∧ Below w.heap.size w w' := by
  obtain ⟨⟨_, A, c, rfl, hnc, hcm, hA⟩, hg⟩ := h
  unfold maxLen at hcm
  have HG := Lib.hid hg
  clear hg
  go_enter Try.func56, Try.ntmps56
  go_wp2
  go_loopw [3] (fun i wr => ∃ k : Nat, k ≤ ss.length ∧ i = .int .i64 k ∧ Below w.heap.size w wr ∧ ∀ i (h : i < ss.length), i < k → ss[i].d.ok = true) (fun i _ => ss.length - (intOf i).toNat)
  case atStart => exact ⟨0, Nat.zero_le _, rfl, Below.refl _ _, fun i _ hi => absurd hi (by omega)⟩
  case round =>
    obtain ⟨k, hk, rfl, hbl, hok⟩ := hrel
    have hz := hbl.size
    have HOK := Lib.hid hok
    clear hok
    by_cases hlt : k < ss.length
    · obtain ⟨b, off, rfl, hcc⟩ := hA (by omega)
      obtain ⟨c0, c1, c2⟩ := sec_at (rd_later hbl hcc) k hlt
      have HX := Lib.hid (Rd.below (HG.out _ (List.getElem_mem hlt)) (Nat.le_refl _) hbl)
      have HN := Lib.hid (fun hb => secsOk_no (ds := ss.map Sec.d) (k := k) (by simpa using hlt) (by rw [List.getElem_map]; exact hb))
      have HS := Lib.hid (show ss[k].d.ok = true → ∀ i (h : i < ss.length), i < k + 1 → ss[i].d.ok = true by
        intro he i h1 hi
        rcases Nat.lt_succ_iff_lt_or_eq.1 hi with h3 | rfl
        · exact HOK.out i h1 h3
        · exact he)
      generalize ss[k] = s at *
      obtain ⟨sb, st, sv, sl⟩ := s
      clear hA hcc
      cases hin : secOk sb st sl
      · have HF := Lib.hid (HN.out hin)
        go_wp2_with fail
        (go_at_call 23; (with_reducible refine (c_sSectionValid sb st _ sl _ HX.out).mono ?_); rintro e wq ⟨rfl, hbq⟩)
        rw [hin]
        go_wp2
        go_ret
        exact ⟨ret_bool HF.out.symm, by (repeat' (first | (with_reducible exact Below.refl _ _) | (with_reducible refine Below.setCell ?_ ?_ _) | (with_reducible refine Below.alloc ?_ ?_ _) | (with_reducible refine Below.drew ?_) | (with_reducible refine below_drewN ?_ _) | (with_reducible refine Below.trans ?_ (Below.mono (by with_reducible assumption) ?_)) | omega | (simp only [size_alloc', size_setCell', size_drew', size_drewN'] at *; omega)))⟩
      · have HF := Lib.hid (HS.out hin)
        go_wp2_with fail
        (go_at_call 23; (with_reducible refine (c_sSectionValid sb st _ sl _ HX.out).mono ?_); rintro e wq ⟨rfl, hbq⟩)
        rw [hin]
        go_wp2
        go_roundw
        case rel => exact ⟨k + 1, by omega, by go_num, by (repeat' (first | (with_reducible exact Below.refl _ _) | (with_reducible refine Below.setCell ?_ ?_ _) | (with_reducible refine Below.alloc ?_ ?_ _) | (with_reducible refine Below.drew ?_) | (with_reducible refine below_drewN ?_ _) | (with_reducible refine Below.trans ?_ (Below.mono (by with_reducible assumption) ?_)) | omega | (simp only [size_alloc', size_setCell', size_drew', size_drewN'] at *; omega))), HF.out⟩
        case measure => simp [intOf]; omega
    · have HP := Lib.hid (show secsOk (ss.map Sec.d) = decide (ss.length ≤ 8) by
        rw [Bool.eq_iff_iff, secsOk_map, decide_eq_true_iff]
        exact ⟨fun h => h.1, fun h => ⟨h, fun i hi => HOK.out i hi (by omega)⟩⟩)
      clear hA
      by_cases h8 : ss.length ≤ 8
      all_goals
        go_wp2
        go_ret
        exact ⟨ret_bool (by rw [HP.out]; simp [h8] <;> omega), hbl⟩
theorem c_SectionsValid (v : Value) (ss : List Sec) (w : World) (h : RdS w v ss) :
    Calls Try.prog 60 #[v] w fun e w' => e = .returned (.bool (secsOk (ss.map Sec.d))) ∧ Below w.heap.size w w' := by
  obtain ⟨⟨_, A, c, rfl, hnc, hcm, hA⟩, hg⟩ := h
  unfold maxLen at hcm
  have HG := Lib.hid hg
  clear hg
  by_cases h8 : ss.length ≤ 8
  · go_enter Try.func60, Try.ntmps60
    go_wp2
    go_loopw [10] (fun i wr => ∃ k : Nat, k ≤ ss.length ∧ i = .int .i64 k ∧ Below w.heap.size w wr ∧ ∀ i (h : i < ss.length), i < k → ss[i].d.ok = true) (fun i _ => ss.length - (intOf i).toNat)
    case atStart => exact ⟨0, Nat.zero_le _, rfl, Below.refl _ _, fun i _ hi => absurd hi (by omega)⟩
    case round =>
      obtain ⟨k, hk, rfl, hbl, hok⟩ := hrel
      have hz := hbl.size
      have HOK := Lib.hid hok
      clear hok
      by_cases hlt : k < ss.length
      · obtain ⟨b, off, rfl, hcc⟩ := hA (by omega)
        obtain ⟨c0, c1, c2⟩ := sec_at (rd_later hbl hcc) k hlt
        have hX := Rd.below (HG.out _ (List.getElem_mem hlt)) (Nat.le_refl _) hbl
        have HN := Lib.hid (fun hb => secsOk_no (ds := ss.map Sec.d) (k := k) (by simpa using hlt) (by rw [List.getElem_map]; exact hb))
        have HS := Lib.hid (show ss[k].d.ok = true → ∀ i (h : i < ss.length), i < k + 1 → ss[i].d.ok = true by
          intro he i h1 hi
          rcases Nat.lt_succ_iff_lt_or_eq.1 hi with h3 | rfl
          · exact HOK.out i h1 h3
          · exact he)
        generalize ss[k] = s at *
        obtain ⟨sb, st, sv, sl⟩ := s
        change Rd wr sv 1 sl.length (intCells sl) at hX
        dsimp only at c0 c1 c2
        have HX := Lib.hid hX
        obtain ⟨_, A1, cc1, rfl, -, -, -⟩ := hX
        clear hA hcc
        cases hin : secOk sb st sl
        · have HF := Lib.hid (HN.out hin)
          go_wp2_with fail
          (go_at_call 22; (with_reducible refine (c_SectionValid sb st _ sl _ (HX.out.alloc _)).mono ?_); rintro e wq ⟨rfl, hbq⟩)
          rw [hin]
          go_wp2
          go_ret
          exact ⟨ret_bool HF.out.symm, by (repeat' (first | (with_reducible exact Below.refl _ _) | (with_reducible refine Below.setCell ?_ ?_ _) | (with_reducible refine Below.alloc ?_ ?_ _) | (with_reducible refine Below.drew ?_) | (with_reducible refine below_drewN ?_ _) | (with_reducible refine Below.trans ?_ (Below.mono (by with_reducible assumption) ?_)) | omega | (simp only [size_alloc', size_setCell', size_drew', size_drewN'] at *; omega)))⟩
        · have HF := Lib.hid (HS.out hin)
          go_wp2_with fail
          (go_at_call 22; (with_reducible refine (c_SectionValid sb st _ sl _ (HX.out.alloc _)).mono ?_); rintro e wq ⟨rfl, hbq⟩)
          rw [hin]
          go_wp2
          go_roundw
          case rel => exact ⟨k + 1, by omega, by go_num, by (repeat' (first | (with_reducible exact Below.refl _ _) | (with_reducible refine Below.setCell ?_ ?_ _) | (with_reducible refine Below.alloc ?_ ?_ _) | (with_reducible refine Below.drew ?_) | (with_reducible refine below_drewN ?_ _) | (with_reducible refine Below.trans ?_ (Below.mono (by with_reducible assumption) ?_)) | omega | (simp only [size_alloc', size_setCell', size_drew', size_drewN'] at *; omega))), HF.out⟩
          case measure => simp [intOf]; omega
      · have HP := Lib.hid (show secsOk (ss.map Sec.d) = true by
          rw [secsOk_map]
          exact ⟨h8, fun i hi => HOK.out i hi (by omega)⟩)
        clear hA
        go_wp2
        go_ret
        exact ⟨ret_bool HP.out.symm, hbl⟩
  · have HP := Lib.hid (show secsOk (ss.map Sec.d) = false by simp [secsOk, h8])
    clear hA
    go_enter Try.func60, Try.ntmps60
    go_wp2
    go_ret
    exact ⟨ret_bool HP.out.symm, Below.refl _ _⟩
end Go.Proofs.Ytlhekgjckjcbhaa
