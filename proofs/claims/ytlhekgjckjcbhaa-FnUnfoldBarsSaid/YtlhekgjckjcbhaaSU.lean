/- UnfoldBars on both sides. Conditions: none. -/
import Derived.Test.YtlhekgjckjcbhaaST
import Derived.Test.YtlhekgjckjcbhaaS13
namespace Go.Proofs.Ytlhekgjckjcbhaa
open Go.RowKit
set_option linter.unusedSimpArgs false
set_option linter.unusedVariables false
set_option maxHeartbeats 8000000
def unfOk (ds : List SD) (bs : List ByteArray) : Bool := secsOk ds && decide ((bs.length : Int) = writtenB ds)
def pickS (bs : List ByteArray) (l : List Int) : List ByteArray := l.map (fun i => bs.getD i.toNat ByteArray.empty)
def unfL (ds : List SD) (bs : List ByteArray) : List ByteArray := if unfOk ds bs = true then pickS bs (playedB ds) else []
def UnfMade (ds : List SD) (bs : List ByteArray) (w : World) (e : Ending) (w' : World) : Prop :=
  ∃ v, e = .returned (.tuple #[v, .bool (unfOk ds bs)]) ∧ w'.ownsRow w.heap.size 9 1 v (unfL ds bs).length (strCells (unfL ds bs)) ∧ (unfL ds bs).length ≤ 4000 ∧ Below w.heap.size w w'
theorem unf_no {ds : List SD} {bs : List ByteArray} (h : unfOk ds bs = false) : unfL ds bs = [] := by unfold unfL; rw [h]; rfl
theorem unf_yes {ds : List SD} {bs : List ByteArray} (h : unfOk ds bs = true) : unfL ds bs = pickS bs (playedB ds) := by unfold unfL; rw [if_pos h]
theorem unf_bad {ds : List SD} {bs : List ByteArray} (h : secsOk ds = false) : unfOk ds bs = false := by unfold unfOk; rw [h]; rfl
theorem unf_len {ds : List SD} {bs : List ByteArray} (h : (bs.length : Int) ≠ writtenB ds) : unfOk ds bs = false := by unfold unfOk; rw [decide_eq_false h, Bool.and_false]
theorem unf_good {ds : List SD} {bs : List ByteArray} (h : secsOk ds = true) (h2 : (bs.length : Int) = writtenB ds) : unfOk ds bs = true := by unfold unfOk; rw [h, decide_eq_true h2]; rfl
theorem unf_idx {ds : List SD} {bs : List ByteArray} (h : secsOk ds = true) (h2 : (bs.length : Int) = writtenB ds) : ∀ x ∈ playedB ds, 0 ≤ x ∧ x < bs.length := by
  intro x hx
  have := ((played_all h).1 x).1 hx
  rw [h2]
  unfold writtenB
  rw [if_pos h]
  exact this
theorem pickS_succ (bs : List ByteArray) (l : List Int) (k : Nat) (hk : k < l.length) : pickS bs (l.take (k + 1)) = pickS bs (l.take k) ++ [bs.getD l[k].toNat ByteArray.empty] := by
  unfold pickS
  rw [List.take_succ_eq_append_getElem hk, List.map_append]
  rfl
theorem pickS_len (bs : List ByteArray) (l : List Int) : (pickS bs l).length = l.length := by simp [pickS]
theorem unf_none (ds : List SD) (bs : List ByteArray) (h : unfOk ds bs = false) (w w' : World) (hb : Below w.heap.size w w') : UnfMade ds bs w (.returned (.tuple #[.slice none 0 0, .bool false])) w' := by
  refine ⟨_, by rw [h], ?_, by rw [unf_no h]; simp, hb⟩
  rw [unf_no h]
  exact ⟨rfl, .inl ⟨rfl, rfl⟩⟩
theorem c_UnfoldBars (u v : Value) (ss : List Sec) (bs : List ByteArray) (w : World) (h1 : RdS w u ss) (h2 : Rd w v 1 bs.length (strCells bs)) :
    Calls Try.prog 29 #[u, v] w (UnfMade (ss.map Sec.d) bs w) := by
  have HL := Lib.hid h1
  have HR := Lib.hid h2
  obtain ⟨⟨_, A, c, rfl, hnc, hcm, -⟩, -⟩ := h1
  obtain ⟨_, A2, c2, rfl, hnc2, hcm2, hA2⟩ := h2
  unfold maxLen at hcm hcm2
  have HBs := Lib.hid hA2
  clear hA2
  have S2 := Below.refl w.heap.size w
  cases hv : secsOk (ss.map Sec.d)
  · have HN := Lib.hid (fun w' => unf_none (ss.map Sec.d) bs (unf_bad hv) w w')
    have HV := Lib.hid hv
    clear hv
    go_enter Try.func29, Try.ntmps29
    go_wp2_with fail
    (go_at_call 60; (with_reducible refine (c_SectionsValid _ ss _ HL.out).mono ?_); rintro e w1 ⟨rfl, hb1⟩; have S2 := (S2.trans (hb1.mono S2.size)))
    rw [HV.out]
    go_wp2_with fail
    go_ret2
    exact HN.out _ S2
  · have HV := Lib.hid hv
    have HW := Lib.hid (writtenS_all hv)
    have hw0 : 0 ≤ writtenB (ss.map Sec.d) ∧ writtenB (ss.map Sec.d) ≤ 480 := by unfold writtenB; rw [if_pos hv]; exact HW.out
    clear hv
    go_enter Try.func29, Try.ntmps29
    go_wp2_with fail
    (go_at_call 60; (with_reducible refine (c_SectionsValid _ ss _ HL.out).mono ?_); rintro e w1 ⟨rfl, hb1⟩; have S2 := (S2.trans (hb1.mono S2.size)))
    rw [HV.out]
    have HL1 := Lib.hid (HL.out.later S2)
    go_wp2_with fail
    (go_at_call 61; (with_reducible refine (c_WrittenBars _ ss _ HL1.out).mono ?_); rintro e w2 ⟨rfl, hb2⟩; have S2 := (S2.trans (hb2.mono S2.size)))
    by_cases heq : (bs.length : Int) = writtenB (ss.map Sec.d)
    · have HG := Lib.hid (unf_good HV.out heq)
      have HIx := Lib.hid (unf_idx HV.out heq)
      rw [← heq]
      clear heq
      have HL2 := Lib.hid (HL.out.later S2)
      have S3 := S2
      go_wp2_with fail
      (go_at_call 36; (with_reducible refine (c_PlayedOrder _ ss _ (HL2.out.later (bel1 _ _)) HV.out).mono ?_); rintro e w3 ⟨go, no, co, rfl, hown3, hno, hb3⟩)
      have hz2 := S3.size
      have HO0 := Lib.hid (own_belA (own_new w2 9 1) hb3)
      have HB0 := Lib.hid ((S3.alloc hz2 (.cells #[] 9)).trans (hb3.mono (by simp only [size_alloc']; omega)))
      have hb3z := hb3.size
      have hlno : no = (playedB (ss.map Sec.d)).length := by have := hown3.1; rw [intCells_lenA] at this; omega
      have HLn := Lib.hid (show (unfL (ss.map Sec.d) bs).length = (playedB (ss.map Sec.d)).length by rw [unf_yes HG.out, pickS_len])
      have HLu := Lib.hid (unf_yes HG.out)
      have HCo := Lib.hid (own_cells hown3)
      have hgo := (hown3.lt go rfl)
      clear hown3
      generalize playedB (ss.map Sec.d) = ord at *
      subst hlno
      go_wp2_with fail
      go_loopw [6, 23] (fun s6 si wr => ∃ (k gv cap : Nat), k ≤ ord.length ∧ si = .int .i64 k ∧ s6 = .slice (some ⟨gv, 0, none⟩) k cap ∧ wr.ownsRow w.heap.size 9 1 (.slice (some ⟨gv, 0, none⟩) k cap) k (strCells (pickS bs (ord.take k))) ∧
        (∀ j u, (intCells ord)[j]? = some u → wr.cell? ⟨go, 0 + j, none⟩ = some u) ∧ gv ≠ go ∧ go < wr.heap.size ∧ Below w.heap.size w wr) (fun _ si _ => ord.length - (intOf si).toNat)
      case atStart => exact ⟨0, _, _, Nat.zero_le _, rfl, rfl, own_monoA HO0.out hz2, HCo.out, by have := hgo.1; simp only [size_alloc'] at this; omega, hgo.2, HB0.out⟩
      case round =>
        obtain ⟨k, gv, cap, hk, rfl, rfl, hown, hco, hgg, hgl, hbl⟩ := hrel
        have hgv := (hown.lt gv rfl).1
        have hgv2 := (hown.lt gv rfl).2
        have hz := hbl.size
        have HO := Lib.hid hown
        have HC := Lib.hid hco
        clear hown hco
        by_cases hlt : k < ord.length
        · have p0 := int_at HC.out k hlt
          rw [Nat.zero_add] at p0
          obtain ⟨x1, x2⟩ := HIx.out _ (List.getElem_mem hlt)
          have HMp := Lib.hid (pickS_succ bs ord k hlt)
          generalize ord[k] = x at *
          obtain ⟨xn, rfl⟩ := Int.eq_ofNat_of_zero_le x1
          have hxn : xn < bs.length := by omega
          obtain ⟨bb, off, rfl, hcc⟩ := HBs.out (by omega)
          have q0 := str_at (fun j u hu => below_cell hbl (hcc j u hu)) xn hxn
          have HS := Lib.hid (show bs.getD (Int.toNat (xn : Int)) ByteArray.empty = bs[xn] by rw [Int.toNat_natCast]; simp [hxn])
          generalize bs[xn] = s at *
          have HOa := Lib.hid (HO.out.alloc (.cells #[.string s] 9))
          clear hcc
          go_wp2_with (at_builtin; go_loud (refine wp_appl (by rfl) (.tmp 27) (.tmp 32) 47 9 rfl _ 1 16 Try.underlying47 info_str rfl (by decide) (by decide) w.heap.size gv cap k _ rfl HOa.out wr.heap.size 0 1 1 [.string s] rfl rfl (cells_new1 wr (.string s) 9) (by intro u hu; simp at hu; subst hu; rfl) (by omega) (by simp only [size_alloc']; omega) ?_))
          intro g8 cap8 w8 hown8 hgr8 hat8 hlt8
          have HO8 := Lib.hid (show w8.ownsRow w.heap.size 9 1 (.slice (some ⟨g8, 0, none⟩) (k + 1) cap8) (k + 1) (strCells (pickS bs (ord.take (k + 1)))) by
            rw [HMp.out, strs_snoc, HS.out]
            exact hown8)
          have hz8 := hgr8.size
          have HB8 := Lib.hid (bel_app (hbl.alloc hz _) HOa.out hgr8 (Nat.le_refl _) (by simp only [size_alloc']; omega))
          have HC8 := Lib.hid (fun j u hu => show w8.cell? ⟨go, 0 + j, none⟩ = some u from
            (World.cell?_of_block (w := wr.alloc (.cells #[.string s] 9)) (hgr8.block go (by simp only [size_alloc']; omega) (by simp; omega))).trans (below_cell (bel1 wr _) (HC.out j u hu)))
          have hg8 : g8 ≠ go := by
            rcases hat8 with e | e
            · rw [e]; exact hgg
            · rw [e]; first | omega | (simp only [size_alloc']; omega)
          simp only [size_alloc'] at hz8
          have hgo8 : go < w8.heap.size := by omega
          clear hown8 hgr8 hat8
          go_wp2_with fail
          go_roundw
          case rel => exact ⟨k + 1, g8, cap8, by omega, by go_num, rfl, HO8.out, HC8.out, hg8, hgo8, HB8.out⟩
          case measure => simp [intOf]; omega
        · have hke : k = ord.length := by omega
          subst hke
          go_wp2_with fail
          go_ret2
          refine ⟨.slice (some ⟨gv, 0, none⟩) ord.length cap, by rw [HG.out]; rfl, ?_, by rw [HLn.out]; omega, hbl⟩
          rw [HLn.out, HLu.out]
          have := HO.out
          rw [List.take_length] at this
          exact this
    · have HN := Lib.hid (fun w' => unf_none (ss.map Sec.d) bs (unf_len heq) w w')
      have hne : ((bs.length : Int) != writtenB (ss.map Sec.d)) = true := by simpa using heq
      clear heq
      go_wp2_with fail
      go_ret2
      exact HN.out _ S2
theorem unf_none2 (ds : List SD) (bs : List ByteArray) (h : unfOk ds bs = false) (w w' : World) (v : Value) (ho : w'.ownsRow w.heap.size 9 1 v 0 []) (hb : Below w.heap.size w w') : UnfMade ds bs w (.returned (.tuple #[v, .bool false])) w' := by
  refine ⟨_, by rw [h], ?_, by rw [unf_no h]; simp, hb⟩
  rw [unf_no h]
  exact ho
theorem c_sUnfoldBars (u v : Value) (ss : List Sec) (bs : List ByteArray) (w : World) (h1 : RdS w u ss) (h2 : Rd w v 1 bs.length (strCells bs)) :
    Calls Try.prog 26 #[u, v] w (UnfMade (ss.map Sec.d) bs w) := by
  have HL := Lib.hid h1
  have HR := Lib.hid h2
  obtain ⟨⟨_, A, c, rfl, hnc, hcm, -⟩, -⟩ := h1
  obtain ⟨_, A2, c2, rfl, hnc2, hcm2, hA2⟩ := h2
  unfold maxLen at hcm hcm2
  have HBs := Lib.hid hA2
  clear hA2
  have S2 : Below w.heap.size w (w.alloc (.cells #[] 9)) := bel1 w _
  cases hv : secsOk (ss.map Sec.d)
  · have HN := Lib.hid (fun w' => unf_none2 (ss.map Sec.d) bs (unf_bad hv) w w')
    have HV := Lib.hid hv
    clear hv
    go_enter Try.func26, Try.ntmps26
    go_wp2_with fail
    (go_at_call 56; (with_reducible refine (c_sSectionsValid _ ss _ (HL.out.later (bel1 _ _))).mono ?_); rintro e w1 ⟨rfl, hb1⟩; have S2 := (S2.trans (hb1.mono S2.size)))
    rw [HV.out]
    go_wp2_with fail
    go_ret2
    exact HN.out _ _ (own_belA (own_new w 9 1) hb1) S2
  · have HV := Lib.hid hv
    have HW := Lib.hid (writtenS_all hv)
    have hw0 : 0 ≤ writtenB (ss.map Sec.d) ∧ writtenB (ss.map Sec.d) ≤ 480 := by unfold writtenB; rw [if_pos hv]; exact HW.out
    clear hv
    go_enter Try.func26, Try.ntmps26
    go_wp2_with fail
    (go_at_call 56; (with_reducible refine (c_sSectionsValid _ ss _ (HL.out.later (bel1 _ _))).mono ?_); rintro e w1 ⟨rfl, hb1⟩; have S2 := (S2.trans (hb1.mono S2.size)))
    rw [HV.out]
    have HL1 := Lib.hid (HL.out.later S2)
    have HO1 := Lib.hid (own_belA (own_new w 9 1) hb1)
    go_wp2_with fail
    (go_at_call 57; (with_reducible refine (c_sWrittenBars _ ss _ HL1.out).mono ?_); rintro e w2 ⟨rfl, hb2⟩; have S2 := (S2.trans (hb2.mono S2.size)))
    have HO2 := Lib.hid (own_belA HO1.out hb2)
    by_cases heq : (bs.length : Int) = writtenB (ss.map Sec.d)
    · have HG := Lib.hid (unf_good HV.out heq)
      have HIx := Lib.hid (unf_idx HV.out heq)
      rw [← heq]
      clear heq
      have HL2 := Lib.hid (HL.out.later S2)
      have S3 := S2
      go_wp2_with fail
      (go_at_call 58; (with_reducible refine (c_sPlayedOrder _ ss _ HL2.out HV.out).mono ?_); rintro e w3 ⟨go, no, co, rfl, hown3, hno, hb3⟩)
      have hz2 := S3.size
      have HO0 := Lib.hid (own_belA HO2.out hb3)
      have HB0 := Lib.hid (S3.trans (hb3.mono hz2))
      have hgw := (HO2.out.lt w.heap.size rfl).2
      have hb3z := hb3.size
      have hlno : no = (playedB (ss.map Sec.d)).length := by have := hown3.1; rw [intCells_lenA] at this; omega
      have HLn := Lib.hid (show (unfL (ss.map Sec.d) bs).length = (playedB (ss.map Sec.d)).length by rw [unf_yes HG.out, pickS_len])
      have HLu := Lib.hid (unf_yes HG.out)
      have HCo := Lib.hid (own_cells hown3)
      have hgo := (hown3.lt go rfl)
      clear hown3
      generalize playedB (ss.map Sec.d) = ord at *
      subst hlno
      go_wp2_with fail
      go_loopw [6, 8] (fun s6 si wr => ∃ (k gv cap : Nat), k ≤ ord.length ∧ si = .int .i64 k ∧ s6 = .slice (some ⟨gv, 0, none⟩) k cap ∧ wr.ownsRow w.heap.size 9 1 (.slice (some ⟨gv, 0, none⟩) k cap) k (strCells (pickS bs (ord.take k))) ∧
        (∀ j u, (intCells ord)[j]? = some u → wr.cell? ⟨go, 0 + j, none⟩ = some u) ∧ gv ≠ go ∧ go < wr.heap.size ∧ Below w.heap.size w wr) (fun _ si _ => ord.length - (intOf si).toNat)
      case atStart => exact ⟨0, _, _, Nat.zero_le _, rfl, rfl, HO0.out, HCo.out, by have := hgo.1; omega, hgo.2, HB0.out⟩
      case round =>
        obtain ⟨k, gv, cap, hk, rfl, rfl, hown, hco, hgg, hgl, hbl⟩ := hrel
        have hgv := (hown.lt gv rfl).1
        have hgv2 := (hown.lt gv rfl).2
        have hz := hbl.size
        have HO := Lib.hid hown
        have HC := Lib.hid hco
        clear hown hco
        by_cases hlt : k < ord.length
        · have p0 := int_at HC.out k hlt
          rw [Nat.zero_add] at p0
          obtain ⟨x1, x2⟩ := HIx.out _ (List.getElem_mem hlt)
          have HMp := Lib.hid (pickS_succ bs ord k hlt)
          generalize ord[k] = x at *
          obtain ⟨xn, rfl⟩ := Int.eq_ofNat_of_zero_le x1
          have hxn : xn < bs.length := by omega
          obtain ⟨bb, off, rfl, hcc⟩ := HBs.out (by omega)
          have q0 := str_at (fun j u hu => below_cell hbl (hcc j u hu)) xn hxn
          have HS := Lib.hid (show bs.getD (Int.toNat (xn : Int)) ByteArray.empty = bs[xn] by rw [Int.toNat_natCast]; simp [hxn])
          generalize bs[xn] = s at *
          have HOa := Lib.hid (HO.out.alloc (.cells #[.string s] 9))
          clear hcc
          go_wp2_with (at_builtin; go_loud (refine wp_appl (by rfl) (.tmp 29) (.tmp 37) 47 9 rfl _ 1 16 Try.underlying47 info_str rfl (by decide) (by decide) w.heap.size gv cap k _ rfl HOa.out wr.heap.size 0 1 1 [.string s] rfl rfl (cells_new1 wr (.string s) 9) (by intro u hu; simp at hu; subst hu; rfl) (by omega) (by simp only [size_alloc']; omega) ?_))
          intro g8 cap8 w8 hown8 hgr8 hat8 hlt8
          have HO8 := Lib.hid (show w8.ownsRow w.heap.size 9 1 (.slice (some ⟨g8, 0, none⟩) (k + 1) cap8) (k + 1) (strCells (pickS bs (ord.take (k + 1)))) by
            rw [HMp.out, strs_snoc, HS.out]
            exact hown8)
          have hz8 := hgr8.size
          have HB8 := Lib.hid (bel_app (hbl.alloc hz _) HOa.out hgr8 (Nat.le_refl _) (by simp only [size_alloc']; omega))
          have HC8 := Lib.hid (fun j u hu => show w8.cell? ⟨go, 0 + j, none⟩ = some u from
            (World.cell?_of_block (w := wr.alloc (.cells #[.string s] 9)) (hgr8.block go (by simp only [size_alloc']; omega) (by simp; omega))).trans (below_cell (bel1 wr _) (HC.out j u hu)))
          have hg8 : g8 ≠ go := by
            rcases hat8 with e | e
            · rw [e]; exact hgg
            · rw [e]; first | omega | (simp only [size_alloc']; omega)
          simp only [size_alloc'] at hz8
          have hgo8 : go < w8.heap.size := by omega
          clear hown8 hgr8 hat8
          go_wp2_with fail
          go_roundw
          case rel => exact ⟨k + 1, g8, cap8, by omega, by go_num, rfl, HO8.out, HC8.out, hg8, hgo8, HB8.out⟩
          case measure => simp [intOf]; omega
        · have hke : k = ord.length := by omega
          subst hke
          go_wp2_with fail
          go_ret2
          refine ⟨.slice (some ⟨gv, 0, none⟩) ord.length cap, by rw [HG.out]; rfl, ?_, by rw [HLn.out]; omega, hbl⟩
          rw [HLn.out, HLu.out]
          have := HO.out
          rw [List.take_length] at this
          exact this
    · have HN := Lib.hid (fun w' => unf_none2 (ss.map Sec.d) bs (unf_len heq) w w')
      have hne : ((bs.length : Int) != writtenB (ss.map Sec.d)) = true := by simpa using heq
      clear heq
      go_wp2_with fail
      go_ret2
      exact HN.out _ _ HO2.out S2
end Go.Proofs.Ytlhekgjckjcbhaa
