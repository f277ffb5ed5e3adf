/- JoinTies. Conditions: none. -/
import Derived.Test.YtendoahanngacaaPS
import Derived.Test.YtendoahanngacaaR4
namespace Go.Proofs.Ytendoahanngacaa
open Go.RowKit
set_option linter.unusedSimpArgs false
set_option linter.unusedVariables false
set_option maxHeartbeats 16000000
theorem set_tick (l : List Nt) (n : Nt) (t : Int) : (ntCells (l ++ [n])).set (l.length * 6 + 4) (.int .i64 t) = ntCells (l ++ [{ n with ticks := t }]) := by
  have hl : (ntCells l).length = l.length * 6 := cellsOf_len Nt.cells 6 Nt.cells_len l
  rw [nts_snoc, nts_snoc, List.set_append_right _ _ (by omega), hl]
  congr 1
  rw [show l.length * 6 + 4 - l.length * 6 = 4 by omega]
  rfl
def JPost (L : List Nt) (w : World) (e : Ending) (w' : World) : Prop :=
  ∃ v, e = .returned v ∧ w'.ownsRow w.heap.size 57 6 v L.length (ntCells L) ∧ L.length ≤ 60 ∧ Below w.heap.size w w'
def JInv (ns : List Nt) (k : Nat) (out : List Nt) : Prop :=
  (k = 0 ∧ out = []) ∨ (0 < k ∧ ∃ pre cur, out = pre ++ [cur] ∧ joinV ns = pre ++ joinL cur (ns.drop k) ∧ 1 ≤ cur.ticks ∧ cur.ticks ≤ 768)
set_option maxHeartbeats 32000000 in
theorem c_JoinTies (v : Value) (ns : List Nt) (w : World) (h : Rd w v 6 ns.length (ntCells ns)) :
    Calls Try.prog 44 #[v] w (JPost (joinT ns) w) := by
  have h' := Lib.hid h
  obtain ⟨_, A, c, rfl, hnc, hcm, hA⟩ := h
  unfold maxLen at hcm
  have HAA := Lib.hid hA
  clear hA
  cases hv : voiceValid ns
  · have HV := Lib.hid (show joinT ns = [] by unfold joinT; rw [hv]; rfl)
    rw [HV.out]
    go_enter Try.func44, Try.ntmps44
    go_wp2_with (go_at_call 45; (with_reducible refine (c_VoiceValid _ ns _ h'.out).mono ?_); rintro e wq ⟨rfl, hbq⟩; have hzq := hbq.size; (try simp only [size_alloc', size_setCell', size_drew', size_drewN'] at hzq); skip)
    go_ret
    exact ⟨_, rfl, ⟨rfl, .inl ⟨rfl, rfl⟩⟩, by simp, by (repeat' (first | (with_reducible exact Below.refl _ _) | (with_reducible refine Below.setCell ?_ ?_ _) | (with_reducible refine Below.alloc ?_ ?_ _) | (with_reducible refine Below.drew ?_) | (with_reducible refine below_drewN ?_ _) | (with_reducible refine Below.trans ?_ (Below.mono (by with_reducible assumption) ?_)) | omega | (simp only [size_alloc', size_setCell', size_drew', size_drewN'] at *; omega)))⟩
  · obtain ⟨h60, hbd⟩ := voiceValid_bd hv
    have HV := Lib.hid (show joinT ns = joinV ns by unfold joinT; rw [if_pos hv])
    have HBD := Lib.hid hbd
    clear hbd
    go_enter Try.func44, Try.ntmps44
    go_wp2_with fail
    (go_at_call 45; (with_reducible refine (c_VoiceValid _ ns _ h'.out).mono ?_); rintro e wq ⟨rfl, hbq⟩; have hzq := hbq.size; (try simp only [size_alloc', size_setCell', size_drew', size_drewN'] at hzq); skip)
    have HO0 := Lib.hid (own_monoA (own_new wq 57 6) hzq)
    have HB0 := Lib.hid (hbq.alloc hzq (.cells #[] 57))
    go_wp2_with fail
    clear hv
    go_loopw [3, 13] (fun o j wr => ∃ (k n g cap : Nat) (out : List Nt), k ≤ ns.length ∧ j = .int .i64 k ∧ o = .slice (some ⟨g, 0, none⟩) n cap ∧ out.length = n ∧ n ≤ k ∧ JInv ns k out ∧
      wr.ownsRow w.heap.size 57 6 (.slice (some ⟨g, 0, none⟩) n cap) n (ntCells out) ∧ Below w.heap.size w wr) (fun _ j _ => ns.length - (intOf j).toNat)
    case atStart => exact ⟨0, 0, _, _, [], Nat.zero_le _, rfl, rfl, rfl, by omega, .inl ⟨rfl, rfl⟩, HO0.out, HB0.out⟩
    case round =>
      obtain ⟨k, n, g, cap, out, hk, rfl, rfl, hln, hnk, hinv, hown, hbl⟩ := hrel
      obtain ⟨wo, rfl⟩ : ∃ wo : World, wo = wr := ⟨_, rfl⟩
      have hz := hbl.size
      have hgw := (hown.lt g rfl).2
      have hgb := (hown.lt g rfl).1
      by_cases hlt : k < ns.length
      · obtain ⟨b1, off, rfl, hcc⟩ := HAA.out (by omega)
        obtain ⟨p0, p1, p2, p3, p4, p5⟩ := nt_at (fun j u hu => below_cell hbl (hcc j u hu)) k hlt
        have hbd := HBD.out k hlt
        have HDr := Lib.hid (List.drop_eq_getElem_cons hlt)
        generalize ns[k] = n0 at *
        obtain ⟨r0, ⟨s0, a0, o0⟩, t0, td0⟩ := n0
        dsimp only at hbd p0 p1 p2 p3 p4 p5
        obtain ⟨tb1, tb2⟩ := hbd
        have HO := Lib.hid hown
        have HBl := Lib.hid hbl
        have HOa := Lib.hid (HO.out.alloc (.cells #[.bool r0, .int .i64 s0, .int .i64 a0, .int .i64 o0, .int .i64 t0, .bool td0] 57))
        have HBa := Lib.hid (HBl.out.alloc hz (.cells #[.bool r0, .int .i64 s0, .int .i64 a0, .int .i64 o0, .int .i64 t0, .bool td0] 57))
        have hne1 : (g = wo.heap.size) = False := eq_false (by omega)
        have hne2 : (wo.heap.size = g) = False := eq_false (by omega)
        clear hcc hown
        rcases hinv with ⟨rfl, rfl⟩ | ⟨hk0, pre, ⟨cr, ⟨cs, ca, co⟩, ct, cd⟩, rfl, hjv, hct1, hct2⟩
        · obtain rfl : n = 0 := by simpa using hln.symm
          have HJ := Lib.hid (show JInv ns (0 + 1) ([] ++ [⟨r0, ⟨s0, a0, o0⟩, t0, td0⟩]) from .inr ⟨by omega, [], _, rfl, by
            have := HDr.out
            rw [List.drop_zero] at this
            show joinV ns = joinL _ _
            conv => lhs; rw [this]
            rfl, tb1, tb2⟩)
          clear hln
          simp only [Nat.zero_mul, Nat.add_zero] at p0 p1 p2 p3 p4 p5
          go_wp2_with fail
          go_quiet (fail)
          have HC := Lib.hid (show ∀ j u, (Nt.cells ⟨r0, ⟨s0, a0, o0⟩, t0, td0⟩)[j]? = some u → (((wo.alloc (.cells #[.bool r0, .int .i64 s0, .int .i64 a0, .int .i64 o0, .int .i64 t0, .bool td0] 57)).alloc (.cells #[.bool r0, .int .i64 s0, .int .i64 a0, .int .i64 o0, .int .i64 t0, .bool td0] 57)).drewN nq).cell? ⟨wo.heap.size + 1, 0 + j, none⟩ = some u by
            have := cells_newL (wo.alloc (.cells #[.bool r0, .int .i64 s0, .int .i64 a0, .int .i64 o0, .int .i64 t0, .bool td0] 57)) #[.bool r0, .int .i64 s0, .int .i64 a0, .int .i64 o0, .int .i64 t0, .bool td0] 57
            try simp only [size_alloc', size_setCell'] at this
            exact this)
          have HO2 := Lib.hid (show (((wo.alloc (.cells #[.bool r0, .int .i64 s0, .int .i64 a0, .int .i64 o0, .int .i64 t0, .bool td0] 57)).alloc (.cells #[.bool r0, .int .i64 s0, .int .i64 a0, .int .i64 o0, .int .i64 t0, .bool td0] 57)).drewN nq).ownsRow w.heap.size 57 6 (.slice (some ⟨g, 0, none⟩) 0 cap) 0 (ntCells ([] : List Nt)) from HOa.out.alloc _)
          have HB2 := Lib.hid (show Below w.heap.size w (((wo.alloc (.cells #[.bool r0, .int .i64 s0, .int .i64 a0, .int .i64 o0, .int .i64 t0, .bool td0] 57)).alloc (.cells #[.bool r0, .int .i64 s0, .int .i64 a0, .int .i64 o0, .int .i64 t0, .bool td0] 57)).drewN nq) from below_drewN (HBa.out.alloc (by simp only [size_alloc']; omega) _) nq)
          go_wp2_with (at_builtin; refine wp_appl (by rfl) (.tmp 56) (.tmp 58) 44 57 rfl _ 6 48 Try.underlying44 info_nt rfl (by decide) (by decide) w.heap.size g cap (0) _ rfl HO2.out (wo.heap.size + 1) 0 1 1 (Nt.cells ⟨r0, ⟨s0, a0, o0⟩, t0, td0⟩) rfl rfl HC.out (nt_one _) (by omega) ?c2 ?_)
          case c2 => simp only [size_drewN', size_alloc']; omega
          intro g5 cap5 w5 hown5 hgr5 hat5 hlt5
          have HO5 := Lib.hid (show w5.ownsRow w.heap.size 57 6 (.slice (some ⟨g5, 0, none⟩) (0 + 1) cap5) (0 + 1) (ntCells (([] : List Nt) ++ [⟨r0, ⟨s0, a0, o0⟩, t0, td0⟩])) by rw [nts_snoc]; exact hown5)
          have HB5 := Lib.hid (bel_app HB2.out HO2.out hgr5 (by omega) (by simp only [size_drewN', size_alloc']; omega))
          clear hown5 hgr5 hat5
          go_wp2_with fail
          go_roundw
          case rel => exact ⟨0 + 1, 0 + 1, g5, cap5, ([] : List Nt) ++ [⟨r0, ⟨s0, a0, o0⟩, t0, td0⟩], by omega, by go_num, rfl, by simp, by omega, HJ.out, HO5.out, HB5.out⟩
          case measure => simp [intOf]; omega
        · obtain rfl : n = pre.length + 1 := by simpa using hln.symm
          have HJV := Lib.hid hjv
          clear hjv hln
          dsimp only at hct1 hct2
          obtain ⟨c0, c1, c2, c3, c4, c5⟩ := nts_last pre _ (own_cells HOa.out)
          have hfa := frozen_own HOa.out
          dsimp only at c0 c1 c2 c3 c4 c5
          have hp60 : pre.length ≤ 60 := by omega
          cases cd
          · have HJ := Lib.hid (show JInv ns (k + 1) ((pre ++ [⟨cr, ⟨cs, ca, co⟩, ct, false⟩]) ++ [⟨r0, ⟨s0, a0, o0⟩, t0, td0⟩]) from .inr ⟨by omega, _, _, rfl, by
              have := HJV.out
              rw [HDr.out, joinL, if_neg (by simp)] at this
              rw [this]; simp, tb1, tb2⟩)
            go_wp2_with fail
            go_quiet (fail)
            clear hfa c0 c1 c2 c3 c4 c5
            have HC := Lib.hid (show ∀ j u, (Nt.cells ⟨r0, ⟨s0, a0, o0⟩, t0, td0⟩)[j]? = some u → (((wo.alloc (.cells #[.bool r0, .int .i64 s0, .int .i64 a0, .int .i64 o0, .int .i64 t0, .bool td0] 57)).alloc (.cells #[.bool r0, .int .i64 s0, .int .i64 a0, .int .i64 o0, .int .i64 t0, .bool td0] 57)).drewN nq).cell? ⟨wo.heap.size + 1, 0 + j, none⟩ = some u by
              have := cells_newL (wo.alloc (.cells #[.bool r0, .int .i64 s0, .int .i64 a0, .int .i64 o0, .int .i64 t0, .bool td0] 57)) #[.bool r0, .int .i64 s0, .int .i64 a0, .int .i64 o0, .int .i64 t0, .bool td0] 57
              try simp only [size_alloc', size_setCell'] at this
              exact this)
            have HO2 := Lib.hid (show (((wo.alloc (.cells #[.bool r0, .int .i64 s0, .int .i64 a0, .int .i64 o0, .int .i64 t0, .bool td0] 57)).alloc (.cells #[.bool r0, .int .i64 s0, .int .i64 a0, .int .i64 o0, .int .i64 t0, .bool td0] 57)).drewN nq).ownsRow w.heap.size 57 6 (.slice (some ⟨g, 0, none⟩) (pre.length + 1) cap) (pre.length + 1) (ntCells (pre ++ [⟨cr, ⟨cs, ca, co⟩, ct, false⟩])) from HOa.out.alloc _)
            have HB2 := Lib.hid (show Below w.heap.size w (((wo.alloc (.cells #[.bool r0, .int .i64 s0, .int .i64 a0, .int .i64 o0, .int .i64 t0, .bool td0] 57)).alloc (.cells #[.bool r0, .int .i64 s0, .int .i64 a0, .int .i64 o0, .int .i64 t0, .bool td0] 57)).drewN nq) from below_drewN (HBa.out.alloc (by simp only [size_alloc']; omega) _) nq)
            go_wp2_with (at_builtin; refine wp_appl (by rfl) (.tmp 56) (.tmp 58) 44 57 rfl _ 6 48 Try.underlying44 info_nt rfl (by decide) (by decide) w.heap.size g cap ((pre.length + 1)) _ rfl HO2.out (wo.heap.size + 1) 0 1 1 (Nt.cells ⟨r0, ⟨s0, a0, o0⟩, t0, td0⟩) rfl rfl HC.out (nt_one _) (by omega) ?c2 ?_)
            case c2 => simp only [size_drewN', size_alloc']; omega
            intro g5 cap5 w5 hown5 hgr5 hat5 hlt5
            have HO5 := Lib.hid (show w5.ownsRow w.heap.size 57 6 (.slice (some ⟨g5, 0, none⟩) ((pre.length + 1) + 1) cap5) ((pre.length + 1) + 1) (ntCells ((pre ++ [⟨cr, ⟨cs, ca, co⟩, ct, false⟩]) ++ [⟨r0, ⟨s0, a0, o0⟩, t0, td0⟩])) by rw [nts_snoc]; exact hown5)
            have HB5 := Lib.hid (bel_app HB2.out HO2.out hgr5 (by omega) (by simp only [size_drewN', size_alloc']; omega))
            clear hown5 hgr5 hat5
            go_wp2_with fail
            go_roundw
            case rel => exact ⟨k + 1, (pre.length + 1) + 1, g5, cap5, (pre ++ [⟨cr, ⟨cs, ca, co⟩, ct, false⟩]) ++ [⟨r0, ⟨s0, a0, o0⟩, t0, td0⟩], by omega, by go_num, rfl, by simp, by omega, HJ.out, HO5.out, HB5.out⟩
            case measure => simp [intOf]; omega
          · by_cases hsum : ct + t0 ≤ 768
            · have HJ := Lib.hid (show JInv ns (k + 1) (pre ++ [⟨cr, ⟨cs, ca, co⟩, ct + t0, td0⟩]) from .inr ⟨by omega, _, _, rfl, by
                have := HJV.out
                rw [HDr.out, joinL, if_pos ⟨rfl, hsum⟩] at this
                exact this, by dsimp only; omega, hsum⟩)
              have HOm := Lib.hid (fun q => show ((((wo.alloc (.cells #[.bool r0, .int .i64 s0, .int .i64 a0, .int .i64 o0, .int .i64 t0, .bool td0] 57)).drewN q).setCell ⟨g, pre.length * 6 + 4, none⟩ (.int .i64 (ct + t0))).setCell ⟨g, pre.length * 6 + 5, none⟩ (.bool td0)).ownsRow w.heap.size 57 6 (.slice (some ⟨g, 0, none⟩) (pre.length + 1) cap) (pre.length + 1) (ntCells (pre ++ [⟨cr, ⟨cs, ca, co⟩, ct + t0, td0⟩])) by
                have h1 := own_set (i := pre.length * 6 + 4) (u := .int .i64 (ct + t0)) (show ((wo.alloc (.cells #[.bool r0, .int .i64 s0, .int .i64 a0, .int .i64 o0, .int .i64 t0, .bool td0] 57)).drewN q).ownsRow w.heap.size 57 6 (.slice (some ⟨g, 0, none⟩) (pre.length + 1) cap) (pre.length + 1) (ntCells (pre ++ [⟨cr, ⟨cs, ca, co⟩, ct, true⟩])) from HOa.out)
                rw [set_tick] at h1
                have h2 := own_set (i := pre.length * 6 + 5) (u := .bool td0) h1
                rw [set_tie] at h2
                exact h2)
              have HBm := Lib.hid (fun q => ((below_drewN HBa.out q).setCell (p := ⟨g, pre.length * 6 + 4, none⟩) hgb (.int .i64 (ct + t0))).setCell (p := ⟨g, pre.length * 6 + 5, none⟩) hgb (.bool td0))
              go_wp2_with fail
              go_quiet (fail)
              go_wp2_with fail
              go_region
              go_wp2_with fail
              go_roundw
              case rel => exact ⟨k + 1, pre.length + 1, g, cap, pre ++ [⟨cr, ⟨cs, ca, co⟩, ct + t0, td0⟩], by omega, by go_num, rfl, by simp, by omega, HJ.out, HOm.out (nq + 1), HBm.out (nq + 1)⟩
              case measure => simp [intOf]; omega
            · have HJ := Lib.hid (show JInv ns (k + 1) ((pre ++ [⟨cr, ⟨cs, ca, co⟩, ct, true⟩]) ++ [⟨r0, ⟨s0, a0, o0⟩, t0, td0⟩]) from .inr ⟨by omega, _, _, rfl, by
                have := HJV.out
                rw [HDr.out, joinL, if_neg (by simpa using hsum)] at this
                rw [this]; simp, tb1, tb2⟩)
              go_wp2_with fail
              go_quiet (fail)
              clear hfa c0 c1 c2 c3 c4 c5
              have HC := Lib.hid (show ∀ j u, (Nt.cells ⟨r0, ⟨s0, a0, o0⟩, t0, td0⟩)[j]? = some u → (((wo.alloc (.cells #[.bool r0, .int .i64 s0, .int .i64 a0, .int .i64 o0, .int .i64 t0, .bool td0] 57)).alloc (.cells #[.bool r0, .int .i64 s0, .int .i64 a0, .int .i64 o0, .int .i64 t0, .bool td0] 57)).drewN nq).cell? ⟨wo.heap.size + 1, 0 + j, none⟩ = some u by
                have := cells_newL (wo.alloc (.cells #[.bool r0, .int .i64 s0, .int .i64 a0, .int .i64 o0, .int .i64 t0, .bool td0] 57)) #[.bool r0, .int .i64 s0, .int .i64 a0, .int .i64 o0, .int .i64 t0, .bool td0] 57
                try simp only [size_alloc', size_setCell'] at this
                exact this)
              have HO2 := Lib.hid (show (((wo.alloc (.cells #[.bool r0, .int .i64 s0, .int .i64 a0, .int .i64 o0, .int .i64 t0, .bool td0] 57)).alloc (.cells #[.bool r0, .int .i64 s0, .int .i64 a0, .int .i64 o0, .int .i64 t0, .bool td0] 57)).drewN nq).ownsRow w.heap.size 57 6 (.slice (some ⟨g, 0, none⟩) (pre.length + 1) cap) (pre.length + 1) (ntCells (pre ++ [⟨cr, ⟨cs, ca, co⟩, ct, true⟩])) from HOa.out.alloc _)
              have HB2 := Lib.hid (show Below w.heap.size w (((wo.alloc (.cells #[.bool r0, .int .i64 s0, .int .i64 a0, .int .i64 o0, .int .i64 t0, .bool td0] 57)).alloc (.cells #[.bool r0, .int .i64 s0, .int .i64 a0, .int .i64 o0, .int .i64 t0, .bool td0] 57)).drewN nq) from below_drewN (HBa.out.alloc (by simp only [size_alloc']; omega) _) nq)
              go_wp2_with (at_builtin; refine wp_appl (by rfl) (.tmp 56) (.tmp 58) 44 57 rfl _ 6 48 Try.underlying44 info_nt rfl (by decide) (by decide) w.heap.size g cap ((pre.length + 1)) _ rfl HO2.out (wo.heap.size + 1) 0 1 1 (Nt.cells ⟨r0, ⟨s0, a0, o0⟩, t0, td0⟩) rfl rfl HC.out (nt_one _) (by omega) ?c2 ?_)
              case c2 => simp only [size_drewN', size_alloc']; omega
              intro g5 cap5 w5 hown5 hgr5 hat5 hlt5
              have HO5 := Lib.hid (show w5.ownsRow w.heap.size 57 6 (.slice (some ⟨g5, 0, none⟩) ((pre.length + 1) + 1) cap5) ((pre.length + 1) + 1) (ntCells ((pre ++ [⟨cr, ⟨cs, ca, co⟩, ct, true⟩]) ++ [⟨r0, ⟨s0, a0, o0⟩, t0, td0⟩])) by rw [nts_snoc]; exact hown5)
              have HB5 := Lib.hid (bel_app HB2.out HO2.out hgr5 (by omega) (by simp only [size_drewN', size_alloc']; omega))
              clear hown5 hgr5 hat5
              go_wp2_with fail
              go_roundw
              case rel => exact ⟨k + 1, (pre.length + 1) + 1, g5, cap5, (pre ++ [⟨cr, ⟨cs, ca, co⟩, ct, true⟩]) ++ [⟨r0, ⟨s0, a0, o0⟩, t0, td0⟩], by omega, by go_num, rfl, by simp, by omega, HJ.out, HO5.out, HB5.out⟩
              case measure => simp [intOf]; omega
      · have HW := Lib.hid (show joinT ns = out by
          rw [HV.out]
          rcases hinv with ⟨rfl, rfl⟩ | ⟨hk0, pre, cur, rfl, hjv, _, _⟩
          · rw [List.eq_nil_of_length_eq_zero (show ns.length = 0 by omega)]; rfl
          · rw [hjv, List.drop_eq_nil_of_le (by omega)]; rfl)
        subst hln
        have HO := Lib.hid hown
        clear hinv hown
        go_wp2_with fail
        go_ret
        rw [HW.out]
        exact ⟨_, rfl, HO.out, by omega, hbl⟩
end Go.Proofs.Ytendoahanngacaa
