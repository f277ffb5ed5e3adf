/- What FnUnfoldBars draws; its walk. Conditions: none. -/
import Derived.Test.YtlhekgjckjcbhaaSU
namespace Go.Proofs.Ytlhekgjckjcbhaa
open Go.RowKit
set_option linter.unusedSimpArgs false
set_option linter.unusedVariables false
set_option maxHeartbeats 16000000
theorem str_list (l : List ByteArray) {W : World} {b : Nat} {T : TypeId} (h : W.heap[b]? = some (.cells (l.map Value.string).toArray T (0, 0))) (x : Int) (h0 : 0 ≤ x) (h1 : x < l.length) : ∃ s, W.cell? ⟨b, x.toNat, none⟩ = some (.string s) := by
  have hx : x.toNat < l.length := by omega
  refine ⟨l[x.toNat], ?_⟩
  rw [cell_of_row W b x.toNat _ T (0, 0) h]
  simp [hx]
theorem rdr_appU {W W' : World} {g gv m : Nat} (h : Rdr W g m) (hk : W.grownBy W' (some gv)) (hg : g < gv) : Rdr W' g m :=
  h.keep fun k hk' => hk.block k (Nat.lt_of_le_of_lt hk' h.lt) (by intro hh; cases hh; omega)
theorem kp_appU {a W W' : World} {g gv : Nat} (ha : a.grownBy W (some g)) (hk : W.grownBy W' (some gv)) (hg : a.heap.size ≤ gv) : a.grownBy W' (some g) :=
  ⟨hk.os.trans ha.os, hk.tape.trans ha.tape, hk.output.trans ha.output, Nat.le_trans ha.size hk.size, fun i hi hne =>
    (hk.block i (Nat.lt_of_lt_of_le hi ha.size) (by intro hh; cases hh; omega)).trans (ha.block i hi hne)⟩
def DUnf (w : World) (e : Ending) (w' : World) : Prop :=
  ∃ (u v : Value) (ss : List Sec) (bs : List ByteArray), e = .returned (.tuple #[u, v]) ∧ RdS w' u ss ∧ Rd w' v 1 bs.length (strCells bs) ∧ bs.length ≤ 500 ∧ Below w.heap.size w w'
theorem c_DrawUnfoldBars (v : Value) (bs : List Int) (w : World) (h : Rd w v 1 bs.length (byteCells bs)) (hb : ∀ x ∈ bs, 0 ≤ x ∧ x ≤ 255) :
    Calls Try.prog 35 #[v] w (DUnf w) := by
  go_enter Try.func35, Try.ntmps35
  go_wp2_with fail
  (go_at_call 38; (with_reducible refine (c_open _ _ _ (h) hb).mono ?_); rintro e w1 ⟨g, rfl, hg, hr1, hbq⟩; have hzq := hbq.size; (try simp only [size_alloc', size_setCell', size_drew', size_drewN'] at hzq hg); (try (refine keep_heap (b := w.heap.size) hbq ?_ ?_; (first | omega | (simp only [size_alloc', size_setCell', size_drew', size_drewN']; omega)); intro hkq; simp only [heap_alloc_get, heap_setCell_get, heap_drew_get, heap_drewN_get, size_alloc', size_setCell', size_drew', size_drewN', nat_simp1, nat_simp2, nat_simp3, nat_simp4, nat_simp5, if_true, if_false, *] at hkq; obtain ⟨_, _⟩ := blk_facts hkq)); (try (refine ne_cps (a := w.heap.size) (b := w1.heap.size) ?_ ?_; omega; intro _ _)); (try (refine ne_cps (a := w.heap.size) (b := w1.heap.size + 1) ?_ ?_; omega; intro _ _)); (try (refine ne_cps (a := w.heap.size) (b := w1.heap.size + 1 + 1) ?_ ?_; omega; intro _ _)); skip)
  have hr2 : Rdr w1 g (1000 + 60) := hr1.mono (by omega)
  have hg1 : g < w1.heap.size := hr1.lt
  clear hr1
  go_wp2_with fail
  (go_at_call 65; (with_reducible refine (c_l20Sections g 1000 _ _ ?_ (by omega) (by omega)).mono ?_); (focus (repeat' (first | (with_reducible assumption) | (with_reducible refine Rdr.alloc ?_ _) | (with_reducible refine Rdr.setCell ?_ ?_ _) | (with_reducible refine Rdr.drewN ?_ _) | (with_reducible refine Rdr.drew ?_) | (show _ < _; first | omega | (simp only [size_alloc', size_setCell', size_drew', size_drewN'] at *; omega))))); rintro e w2 ⟨v2, ss, rfl, hso, hl9, hl8, hrq, hgq⟩; have hsq := hgq.size; (try simp only [size_alloc', size_setCell', size_drew', size_drewN'] at hsq); skip)
  have HSo := Lib.hid hso
  have HB2 := Lib.hid (below_of_kp hbq hgq hg (by omega))
  have hw12 := hgq.size
  have hw2 : -1 ≤ writtenB (ss.map Sec.d) ∧ writtenB (ss.map Sec.d) ≤ 480 := by
    unfold writtenB
    cases hv : secsOk (ss.map Sec.d)
    · simp
    · have := writtenS_all hv
      simp only [if_true]
      omega
  obtain ⟨⟨gl, cl, rfl⟩, -⟩ := hso
  clear hgq hr2
  have HR2 := Lib.hid hrq
  clear hrq
  go_wp2_with fail
  go_loopw [6, 7] (fun s6 s7 wr => ∃ (k gv cap : Nat) (ls : List ByteArray), (k : Int) ≤ 480 ∧ s7 = .int .i64 k ∧ s6 = .slice (some ⟨gv, 0, none⟩) k cap ∧ ls.length = k ∧ wr.ownsRow w2.heap.size 9 1 (.slice (some ⟨gv, 0, none⟩) k cap) k (strCells ls) ∧
    Rdr wr g (2 + (481 - k)) ∧ w2.grownBy wr (some g)) (fun _ s7 _ => 480 - (intOf s7).toNat)
  case atStart => exact ⟨0, _, _, [], by omega, rfl, rfl, rfl, own_new w2 _ 1, (HR2.out.alloc _).mono (by omega), kp_alloc (World.grownBy.refl _ _) _⟩
  case round =>
    obtain ⟨k, gv, cap, ls, hk, rfl, rfl, hlen, hown, hrd, hgk⟩ := hrel
    have hgv := (hown.lt gv rfl).1
    have hgv2 := (hown.lt gv rfl).2
    have hz := hgk.size
    have HO := Lib.hid hown
    have HG := Lib.hid hgk
    have HLN := Lib.hid hlen
    have HRL := Lib.hid (HSo.out.pick hgk hg1).rd
    clear hown hgk hlen
    go_wp2_with fail
    (go_at_call 57; (with_reducible refine (c_sWrittenBars _ ss _ HRL.out).mono ?_); rintro e w3 ⟨rfl, hb3⟩)
    have HO3 := Lib.hid (own_belA HO.out hb3)
    have HG3 := Lib.hid (kp_below HG.out hb3)
    have hr3 := hrd.below hb3 hrd.lt
    have hz3 := hb3.size
    clear hrd
    by_cases hlt : (k : Int) < writtenB (ss.map Sec.d)
    · have hr4 : Rdr w3 g ((2 + (480 - k)) + 1) := hr3.mono (by omega)
      clear hr3
      go_wp2_with fail
      (go_at_call 47; (with_reducible refine (c_pick g (2+(480-k)) _ _ ?_ (by omega) (by omega)).mono ?_); (focus (repeat' (first | (with_reducible assumption) | (with_reducible refine Rdr.alloc ?_ _) | (with_reducible refine Rdr.setCell ?_ ?_ _) | (with_reducible refine Rdr.drewN ?_ _) | (with_reducible refine Rdr.drew ?_) | (show _ < _; first | omega | (simp only [size_alloc', size_setCell', size_drew', size_drewN'] at *; omega))))); rintro e w4 ⟨x4, rfl, hx4, hy4, hz4, hrq, hgq⟩; have hsq := hgq.size; (try simp only [size_alloc', size_setCell', size_drew', size_drewN'] at hsq); (try (refine keep_heap_g (b := w3.heap.size) hgq ?_ ?_ ?_; (first | omega | (simp only [size_alloc', size_setCell', size_drew', size_drewN']; omega)); omega; intro hkq; simp only [heap_alloc_get, heap_setCell_get, heap_drew_get, heap_drewN_get, size_alloc', size_setCell', size_drew', size_drewN', nat_simp1, nat_simp2, nat_simp3, nat_simp4, nat_simp5, if_true, if_false, Option.map_some, *] at hkq)); (try (refine ne_cps (a := w3.heap.size) (b := w4.heap.size) ?_ ?_; omega; intro _ _)); (try (refine ne_cps (a := w3.heap.size) (b := w4.heap.size + 1) ?_ ?_; omega; intro _ _)); (try (refine ne_cps (a := w3.heap.size) (b := w4.heap.size + 1 + 1) ?_ ?_; omega; intro _ _)); skip)
      have hx4' := hy4 (by omega)
      obtain ⟨s, hs⟩ := str_list [⟨#[97]⟩, ⟨#[98]⟩, ⟨#[99]⟩, ⟨#[]⟩] (W := w4) (b := w3.heap.size) (by assumption) x4 hx4 (by simpa using hx4')
      have HO4 := Lib.hid (own_pick (HO3.out.alloc _) hgq (by omega))
      have HG4 := Lib.hid (kp_trans (kp_alloc HG3.out _) hgq)
      have HR4 := Lib.hid hrq
      have hz4 := hgq.size
      simp only [size_alloc'] at hz4
      clear hrq hgq hr4 hy4
      go_wp2_with (at_builtin; go_loud (refine wp_appl (by rfl) (.tmp 19) (.tmp 25) 47 9 rfl _ 1 16 Try.underlying47 info_str rfl (by decide) (by decide) w2.heap.size gv cap k _ rfl (HO4.out.alloc (.cells #[.string s] 9)) w4.heap.size 0 1 1 [.string s] rfl rfl (cells_new1 w4 (.string s) 9) (by intro u hu; simp at hu; subst hu; rfl) (by omega) (by simp only [size_alloc']; omega) ?_))
      intro g8 cap8 w8 hown8 hgr8 hat8 hlt8
      have HO8 := Lib.hid (show w8.ownsRow w2.heap.size 9 1 (.slice (some ⟨g8, 0, none⟩) (k + 1) cap8) (k + 1) (strCells (ls ++ [s])) by
        rw [strs_snoc]
        exact hown8)
      have HR8 := Lib.hid (rdr_appU (HR4.out.alloc _) hgr8 (by omega))
      have HK8 := Lib.hid (kp_appU (kp_alloc HG4.out _) hgr8 hgv)
      clear hown8 hgr8 hat8
      go_wp2_with fail
      go_roundw
      case rel => exact ⟨k + 1, g8, cap8, ls ++ [s], by omega, by go_num, rfl, by simp [HLN.out], HO8.out, HR8.out.mono (by omega), HK8.out⟩
      case measure => simp [intOf]; omega
    · have hr4 : Rdr w3 g (1 + 1) := hr3.mono (by omega)
      clear hr3
      go_wp2_with fail
      (go_at_call 66; (with_reducible refine (c_odd g 1 _ _ ?_ (by omega) (by omega)).mono ?_); (focus (repeat' (first | (with_reducible assumption) | (with_reducible refine Rdr.alloc ?_ _) | (with_reducible refine Rdr.setCell ?_ ?_ _) | (with_reducible refine Rdr.drewN ?_ _) | (with_reducible refine Rdr.drew ?_) | (show _ < _; first | omega | (simp only [size_alloc', size_setCell', size_drew', size_drewN'] at *; omega))))); rintro e w4 ⟨b4, rfl, hrq, hgq⟩; have hsq := hgq.size; (try simp only [size_alloc', size_setCell', size_drew', size_drewN'] at hsq); skip)
      have HO4 := Lib.hid (own_pick HO3.out hgq (by omega))
      have HG4 := Lib.hid (kp_trans HG3.out hgq)
      have hz4 := hgq.size
      have HL4 := Lib.hid (HSo.out.pick HG4.out hg1).rd
      clear hrq hgq hr4
      have hll : ls.length ≤ 480 := by have := HLN.out; omega
      cases b4
      · go_wp2_with fail
        go_ret2
        exact ⟨_, _, ss, ls, rfl, HL4.out, by rw [HLN.out]; exact Rd.of_own HO4.out, by omega, below_of_kp HB2.out HG4.out hg (by omega)⟩
      · go_wp2_with (at_builtin; go_loud (refine wp_appl (by rfl) (.tmp 29) (.tmp 30) 47 9 rfl _ 1 16 Try.underlying47 info_str rfl (by decide) (by decide) w2.heap.size gv cap k _ rfl (HO4.out.alloc (.cells #[.string ⟨#[100]⟩] 9)) w4.heap.size 0 1 1 [.string ⟨#[100]⟩] rfl rfl (cells_new1 w4 (.string ⟨#[100]⟩) 9) (by intro u hu; simp at hu; subst hu; rfl) (by omega) (by simp only [size_alloc']; omega) ?_))
        intro g8 cap8 w8 hown8 hgr8 hat8 hlt8
        have HO8 := Lib.hid (show w8.ownsRow w2.heap.size 9 1 (.slice (some ⟨g8, 0, none⟩) (k + 1) cap8) (k + 1) (strCells (ls ++ [⟨#[100]⟩])) by
          rw [strs_snoc]
          exact hown8)
        have HK8 := Lib.hid (kp_appU (kp_alloc HG4.out _) hgr8 hgv)
        have HL8 := Lib.hid (HSo.out.pick HK8.out hg1).rd
        clear hown8 hgr8 hat8
        go_wp2_with fail
        go_ret2
        exact ⟨_, _, ss, ls ++ [⟨#[100]⟩], rfl, HL8.out, by rw [List.length_append, HLN.out]; exact Rd.of_own HO8.out, by simp; omega, below_of_kp HB2.out HK8.out hg (by omega)⟩
theorem pickS_get (bs : List ByteArray) (l : List Int) (k : Nat) (hl : k < l.length) (h0 : 0 ≤ l[k]) (h1 : l[k] < bs.length) : (pickS bs l)[k]? = bs[l[k].toNat]? := by
  unfold pickS
  have : l[k].toNat < bs.length := by omega
  simp [List.getElem?_map, hl, this]
set_option maxRecDepth 100000 in
theorem walk_FnUnfoldBars (w : World) (v : Value) (bs : List Int) (h : Rd w v 1 bs.length (byteCells bs)) (hb : ∀ x ∈ bs, 0 ≤ x ∧ x ≤ 255) :
    Calls Try.prog 8 #[v] w fun e w' => e = .returned (.bool true) ∧ Below w.heap.size w w' := by
  have h' := Lib.hid h
  obtain ⟨_, A, c, rfl, hnc, hcm, hA⟩ := h
  unfold maxLen at hcm
  clear hA
  by_cases hlen : bs.length ≤ 1048576
  · go_enter Try.func8, Try.ntmps8
    go_wp2_with fail
    (go_at_call 35; (with_reducible refine (c_DrawUnfoldBars _ bs _ h'.out hb).mono ?_); rintro e w1 ⟨u1, v1, ss, ls, rfl, hru, hrv, hl5, S2⟩)
    have HU1 := Lib.hid hru
    have HV1 := Lib.hid hrv
    obtain ⟨⟨_, A1, c1, rfl, -, -, -⟩, -⟩ := hru
    obtain ⟨_, A2, c2, rfl, hnc2, hcm2, -⟩ := hrv
    go_wp2_with fail
    (go_at_call 29; (with_reducible refine (c_UnfoldBars _ _ ss ls _ HU1.out HV1.out).mono ?_); rintro e w2 ⟨vx, rfl, hox, hlx, hb2⟩; have S2 := S2.trans (hb2.mono S2.size))
    have HU2 := Lib.hid (HU1.out.later hb2)
    have HV2 := Lib.hid (HV1.out.below (Nat.le_refl _) hb2)
    have HX2 := Lib.hid (Rd.of_own hox)
    obtain ⟨_, A3, c3, rfl, hnc3, hcm3, -⟩ := Rd.of_own hox
    clear hox
    go_wp2_with fail
    (go_at_call 26; (with_reducible refine (c_sUnfoldBars _ _ ss ls _ HU2.out HV2.out).mono ?_); rintro e w3 ⟨vy, rfl, hoy, hly, hb3⟩; have S2 := S2.trans (hb3.mono S2.size))
    have HU3 := Lib.hid (HU2.out.later hb3)
    have HV3 := Lib.hid (HV2.out.below (Nat.le_refl _) hb3)
    have HX3 := Lib.hid (HX2.out.below (Nat.le_refl _) hb3)
    have HY3 := Lib.hid (Rd.of_own hoy)
    obtain ⟨_, A4, c4, rfl, hnc4, hcm4, -⟩ := Rd.of_own hoy
    unfold maxLen at hcm2 hcm3 hcm4
    clear hoy
    have hz3 := S2.size
    cases hok : unfOk (ss.map Sec.d) ls
    · have HE := Lib.hid (unf_no hok)
      have HL0 := Lib.hid (show (unfL (ss.map Sec.d) ls).length = 0 by rw [HE.out]; rfl)
      generalize hn : (unfL (ss.map Sec.d) ls).length = n at *
      obtain rfl : n = 0 := HL0.out
      clear hok hn
      go_wp2_with (go_at_call 12; (with_reducible refine (c_alive _).mono ?_); rintro e wq ⟨rfl, hbq⟩; have hzq := hbq.size; (try simp only [size_alloc', size_setCell', size_drew', size_drewN'] at hzq); skip)
      go_ret
      exact ⟨rfl, S2.trans (hbq.mono hz3)⟩
    · have HE := Lib.hid (unf_yes hok)
      have hv : secsOk (ss.map Sec.d) = true := by unfold unfOk at hok; exact (Bool.and_eq_true _ _ ▸ hok).1
      have hwl : (ls.length : Int) = writtenB (ss.map Sec.d) := by unfold unfOk at hok; exact of_decide_eq_true (Bool.and_eq_true _ _ ▸ hok).2
      have HV := Lib.hid hv
      have HIx := Lib.hid (unf_idx hv hwl)
      clear hok hv hwl
      go_wp2_with fail
      (go_at_call 36; (with_reducible refine (c_PlayedOrder _ ss _ HU3.out HV.out).mono ?_); rintro e w4 ⟨go, no, co, rfl, hown4, hno, hb4⟩; have S2 := S2.trans (hb4.mono S2.size))
      have hz4 := S2.size
      have HV4 := Lib.hid (HV3.out.below (Nat.le_refl _) hb4)
      have HX4 := Lib.hid (HX3.out.below (Nat.le_refl _) hb4)
      have HY4 := Lib.hid (HY3.out.below (Nat.le_refl _) hb4)
      have hlno : no = (playedB (ss.map Sec.d)).length := by have := hown4.1; rw [intCells_lenA] at this; omega
      have HC4 := Lib.hid (own_cells hown4)
      have ep := pickS_len ls (playedB (ss.map Sec.d))
      have HX5 := Lib.hid (show Rd w4 (.slice A3 (playedB (ss.map Sec.d)).length c3) 1 (playedB (ss.map Sec.d)).length (strCells (pickS ls (playedB (ss.map Sec.d)))) by have := HX4.out; rwa [HE.out, ep] at this)
      have HY5 := Lib.hid (show Rd w4 (.slice A4 (playedB (ss.map Sec.d)).length c4) 1 (playedB (ss.map Sec.d)).length (strCells (pickS ls (playedB (ss.map Sec.d)))) by have := HY4.out; rwa [HE.out, ep] at this)
      rw [HE.out, ep] at hlx hnc3 hnc4
      rw [HE.out, ep]
      clear hown4 HX4 HY4 HE HX3 HY3 HX2 hly
      generalize playedB (ss.map Sec.d) = ord at *
      subst hlno
      have HGet := Lib.hid (fun k hl h0 h1 => pickS_get ls ord k hl h0 h1)
      have HPL := Lib.hid ep
      generalize hp : pickS ls ord = P at *
      clear hp ep
      obtain ⟨_, _, _, he5, _, _, hx5⟩ := HX5.out
      cases he5
      obtain ⟨_, _, _, he6, _, _, hy5⟩ := HY5.out
      cases he6
      obtain ⟨_, _, _, he7, _, _, hv5⟩ := HV4.out
      cases he7
      have HXC := Lib.hid hx5
      have HYC := Lib.hid hy5
      have HVC := Lib.hid hv5
      clear hx5 hy5 hv5
      go_wp2_with fail
      go_loopw [10] (fun i wr => ∃ k : Nat, k ≤ ord.length ∧ i = .int .i64 k ∧ Below w4.heap.size w4 wr) (fun i _ => ord.length - (intOf i).toNat)
      case atStart => exact ⟨0, Nat.zero_le _, rfl, Below.refl _ _⟩
      case round =>
        obtain ⟨k, hk, rfl, hbl⟩ := hrel
        by_cases hlt : k < ord.length
        · obtain ⟨b1, f1, rfl, hc1⟩ := HXC.out (by omega)
          obtain ⟨b2, f2, rfl, hc2⟩ := HYC.out (by omega)
          obtain ⟨x1, x2⟩ := HIx.out _ (List.getElem_mem hlt)
          have hls : 0 < ls.length := by omega
          obtain ⟨b3, f3, rfl, hc3⟩ := HVC.out hls
          have r0 := int_at (fun j u hu => below_cell hbl (HC4.out j u hu)) k hlt
          rw [Nat.zero_add] at r0
          have p0 := str_at (fun j u hu => below_cell hbl (hc1 j u hu)) k (by rw [HPL.out]; exact hlt)
          have q0 := str_at (fun j u hu => below_cell hbl (hc2 j u hu)) k (by rw [HPL.out]; exact hlt)
          have hg := HGet.out k hlt x1 x2
          generalize ord[k] = x at *
          obtain ⟨xn, rfl⟩ := Int.eq_ofNat_of_zero_le x1
          have hxn : xn < ls.length := by omega
          have s0 := str_at (fun j u hu => below_cell hbl (hc3 j u hu)) xn hxn
          have hgs : P[k]'(by rw [HPL.out]; exact hlt) = ls[xn] := by
            rw [List.getElem?_eq_getElem (by rw [HPL.out]; exact hlt), Int.toNat_natCast, List.getElem?_eq_getElem hxn] at hg
            exact Option.some.inj hg
          rw [hgs] at p0 q0
          generalize ls[xn] = s at *
          have hi1 : (0 : Int) ≤ (k : Int) := by omega
          have hi2 : (k : Int) < (ord.length : Int) := by omega
          have hi3 : ¬ (ord.length : Int) ≤ (k : Int) := by omega
          have hi4 : ¬ (ls.length : Int) ≤ (xn : Int) := by omega
          have hi5 : ¬ (xn : Int) < 0 := by omega
          have hi6 : (xn : Int) < (ls.length : Int) := by omega
          clear hgs hg hc1 hc2 hc3
          go_wp2_with fail
          go_quiet (fail)
          go_wp2_with fail
          go_roundw
          case rel => exact ⟨k + 1, by omega, by go_num, by (repeat' (first | (with_reducible exact Below.refl _ _) | (with_reducible refine Below.setCell ?_ ?_ _) | (with_reducible refine Below.alloc ?_ ?_ _) | (with_reducible refine Below.drew ?_) | (with_reducible refine below_drewN ?_ _) | (with_reducible refine Below.trans ?_ (Below.mono (by with_reducible assumption) ?_)) | omega | (simp only [size_alloc', size_setCell', size_drew', size_drewN'] at *; omega)))⟩
          case measure => simp [intOf]; omega
        · go_wp2_with fail
          go_ret
          exact ⟨rfl, S2.trans (hbl.mono hz4)⟩
  · go_enter Try.func8, Try.ntmps8
    go_wp2_with fail
    go_ret
    exact ⟨rfl, Below.refl _ _⟩
end Go.Proofs.Ytlhekgjckjcbhaa
