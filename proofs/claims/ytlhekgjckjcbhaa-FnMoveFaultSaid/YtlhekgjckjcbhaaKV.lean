/- Drawing a chord near another one; two chords. Conditions: none. -/
import Derived.Test.YtlhekgjckjcbhaaKU
import Derived.Test.YtlhekgjckjcbhaaN6
import Derived.Test.YtlhekgjckjcbhaaC7
namespace Go.Proofs.Ytlhekgjckjcbhaa
open Go.RowKit
set_option linter.unusedSimpArgs false
set_option linter.unusedVariables false
set_option maxHeartbeats 16000000
set_option maxRecDepth 100000
/-- Pitches do not lie in the reader's block. -/
theorem pit_off {w : World} {g m b off : Nat} {ns : List Pit} (h : Rdr w g m) (hn : 0 < ns.length) (hc : ∀ j u, (pitCells ns)[j]? = some u → w.cell? ⟨b, off + j, none⟩ = some u) : b ≠ g := by
  rintro rfl
  obtain ⟨A, n, c, p, bs, hg, _⟩ := h
  have := (pit_at hc 0 hn).2.2
  rw [cell_of_row w b _ _ _ _ hg] at this
  have := (Array.getElem?_eq_some_iff.1 this).1
  simp at this
  omega
theorem pits_kp {w w' : World} {g m n : Nat} {v : Value} {ns : List Pit} (h : Rdr w g m) (hr : Rd w v 3 ns.length (pitCells ns)) (hk : w.grownBy w' (some g)) : Rd w' v 3 ns.length (pitCells ns) := by
  obtain ⟨h1, A, c, rfl, h2, h3, h4⟩ := hr
  refine ⟨h1, A, c, rfl, h2, h3, fun h0 => ?_⟩
  obtain ⟨b, off, rfl, hc⟩ := h4 h0
  have hne := pit_off h h0 hc
  exact ⟨b, off, rfl, fun j u hu => (Mv.of_kp hk).cell (hc j u hu) hne⟩
def JNx (B : Nat) (b off n c k : Nat) (p : Pit) (iv : Iv) (i : Nat) (v : Value) (W : World) : Prop :=
  match i with
  | 0 => v = .slice (some ⟨b, off, none⟩) n c
  | 1 => v = .int .i64 k
  | 2 => v = .pointer (some ⟨b, off + k * 3, none⟩)
  | 3 => v = p.v
  | 4 => v = iv.v
  | 5 => ∃ (p : Pit) (b : Bool), v = .tuple #[p.v, .bool b]
  | 6 => ∃ (p : Pit) (b : Bool), v = .tuple #[p.v, .bool b]
  | 7 => ∃ p : Pit, v = p.v
  | 8 => ∃ b, v = .bool b
  | 9 => ∃ (b : Nat) (p : Pit), v = .pointer (some ⟨b, 0, none⟩) ∧ B ≤ b ∧ W.heap[b]? = some (.cells #[.int .i64 p.step, .int .i64 p.alter, .int .i64 p.octave] 29 (0, 0))
  | 11 => ∃ b, v = .bool b
  | _ => True
theorem JNx.mv {B b off n c k : Nat} {p : Pit} {iv : Iv} {X : Nat → Prop} {W W' : World} (hm : Mv X W W') (hX : ∀ b, X b → b < B) : ∀ j u, JNx B b off n c k p iv j u W → JNx B b off n c k p iv j u W' := by
  intro j u h
  unfold JNx at *
  split at h
  case h_10 =>
    obtain ⟨b, p, h1, h2, h3⟩ := h
    exact ⟨b, p, h1, h2, hm.heap h3 (fun hx => by have := hX b hx; omega)⟩
  all_goals exact h
theorem JNx.st {B b0 off n c k : Nat} {p0 : Pit} {iv : Iv} {b : Nat} {q p : Pit} {W : World} (hh : W.heap[b]? = some (.cells #[.int .i64 q.step, .int .i64 q.alter, .int .i64 q.octave] 29 (0, 0))) :
    ∀ j u, JNx B b0 off n c k p0 iv j u W → JNx B b0 off n c k p0 iv j u (((W.setCell ⟨b, 0, none⟩ (.int .i64 p.step)).setCell ⟨b, 1, none⟩ (.int .i64 p.alter)).setCell ⟨b, 2, none⟩ (.int .i64 p.octave)) := by
  intro j u h
  unfold JNx at *
  split at h
  case h_10 =>
    obtain ⟨b', p', h1, h2, h3⟩ := h
    by_cases hb : b' = b
    · subst hb
      refine ⟨b', p, h1, h2, ?_⟩
      simp only [heap_setCell_get, if_true, h3, Option.map_some]
      rfl
    · refine ⟨b', p', h1, h2, ?_⟩
      simp only [heap_setCell_get, if_neg (Ne.symm hb)]
      exact h3
  all_goals exact h
theorem addVal_pb (o : Option Pit) : ∃ (p : Pit) (b : Bool), addVal o = .tuple #[p.v, .bool b] := by
  cases o with
  | none => exact ⟨⟨0, 0, 0⟩, false, rfl⟩
  | some q => exact ⟨q, true, rfl⟩
theorem c_l20Next (g m : Nat) (v : Value) (ns : List Pit) (w : World) (h : Rdr w g (m + 20)) (hr : Rd w v 3 ns.length (pitCells ns)) (hl : ns.length ≤ 4) :
    Calls Try.prog 48 #[.pointer (some ⟨g, 0, none⟩), v] w (DrewStk g m w) := by
  have hg := h.lt
  have HR := Lib.hid hr
  have HRd := Lib.hid h
  obtain ⟨_, A, c, rfl, hnc, hcm, -⟩ := hr
  unfold maxLen at hcm
  go_enter Try.func48, Try.ntmps48
  go_wp2_with fail
  have hr0 : Rdr (w.alloc (.cells #[] 29)) g ((m + 13) + 7) := h.alloc _
  (go_at_call 72; (with_reducible refine (c_l20Way g (m + 13) 0 _ hr0 (by omega) (by omega)).mono ?_); rintro e w1 ⟨⟨is, ih⟩, rfl, hi1, hi2, hrq, hgq⟩)
  have HO1 := Lib.hid (pick_ownQ (own_new w 29 3) hgq hg)
  have HG1 := Lib.hid (kp_trans (kp_alloc (World.grownBy.refl w (some g)) _) hgq)
  have hz1 := HG1.out.size
  have HQ1 := Lib.hid hrq
  clear hrq hgq hr0
  go_wp2_with fail
  have hI0 := heap_alloc_new w1 (.cells #[.int .i64 is, .int .i64 ih] 98)
  go_loopw [5, 7] (fun s5 s7 wr => ∃ (k gv cap : Nat) (ms : List Pit), k ≤ ns.length ∧ s7 = .int .i64 k ∧ s5 = .slice (some ⟨gv, 0, none⟩) k cap ∧ ms.length = k ∧ wr.ownsRow w.heap.size 29 3 (.slice (some ⟨gv, 0, none⟩) k cap) k (pitCells ms) ∧
      wr.heap[w1.heap.size]? = some (.cells #[.int .i64 is, .int .i64 ih] 98 (0, 0)) ∧ Rdr wr g (m + 2 * (4 - k)) ∧ w.grownBy wr (some g) ∧ gv ≠ w1.heap.size) (fun _ s7 _ => ns.length - (intOf s7).toNat)
  case atStart =>
    exact ⟨0, _, _, [], by omega, rfl, rfl, rfl, HO1.out.alloc _, hI0, (HQ1.out.alloc _).mono (by omega), kp_alloc HG1.out _, by have := (HO1.out.lt w.heap.size rfl).2; omega⟩
  case round =>
    obtain ⟨k, gv, cap, ms, hk, rfl, rfl, hlen, hown, hiv, hrd, hgk, hgn⟩ := hrel
    have hz := hgk.size
    have hgv := (hown.lt gv rfl).1
    have hgv2 := (hown.lt gv rfl).2
    have HO := Lib.hid hown
    have HG := Lib.hid hgk
    have HLN := Lib.hid hlen
    have HV := Lib.hid hiv
    have hrr := pits_kp (n := 0) HRd.out HR.out hgk
    have HRR := Lib.hid hrr
    have hwb : w.heap.size ≤ w1.heap.size := by omega
    have hw1r := (Array.getElem?_eq_some_iff.1 hiv).1
    clear hown hgk hlen hiv
    by_cases hlt : k < ns.length
    · have hgw : g < wr.heap.size := by omega
      obtain ⟨_, A', c', he, _, _, hA⟩ := hrr
      cases he
      obtain ⟨b, off, rfl, hcc⟩ := hA (by omega)
      have hbg := pit_off hrd (by omega) hcc
      obtain ⟨p0, p1, p2⟩ := pit_at hcc k hlt
      generalize ns[k] = p at *
      obtain ⟨ps, pa, po⟩ := p
      have HP := Lib.hid (And.intro p0 (And.intro p1 p2))
      clear p0 p1 p2 hA hcc
      have HS := Lib.hid (fun (W W' : World) (hm : Mv (· = g) W W') => JNx.mv (B := wr.heap.size) (b := b) (off := off) (n := ns.length) (c := c) (k := k) (p := ⟨ps, pa, po⟩) (iv := ⟨is, ih⟩) hm (fun b hb => by rw [hb]; exact hgw))
      have hig : ¬ w1.heap.size = g := by omega
      go_upto_region 6 with fail
      refine wp_region_rg ?F (fun c W => Rdr W g c ∧ Mv (· = g) wr W) (JNx wr.heap.size b off ns.length c k ⟨ps, pa, po⟩ ⟨is, ih⟩) (fun _ => 0) (fun _ => false) (m + 2 * (4 - k)) ?hF (by kernel_rfl) (by kernel_rfl) (by kernel_rfl) (by kernel_rfl) ?_ ?_ ?_
      case hF =>
        intro vs
        simp [fillA, Act.put, hlt]
        rfl
      · exact ⟨(hrd.mono (Nat.le_of_eq (by rw [show leftC _ _ _ = 0 by kernel_rfl]; rfl))).drew, Mv.drew _⟩
      · (refine RGAll.plain rfl ?_ ?_; focus (intro vs W m hm0 ⟨hR, hM⟩ hdep K hK; clear hdep; go_wp2_with fail; exact ⟨_, rfl, ⟨hR, hM⟩, rfl, fun _ _ h => h⟩))
        (refine RGAll.plain rfl ?_ ?_; focus (intro vs W m hm0 ⟨hR, hM⟩ hdep K hK; clear hdep; go_wp2_with fail; exact ⟨_, rfl, ⟨hR, hM⟩, rfl, fun _ _ h => h⟩))
        (refine RGAll.plain rfl ?_ ?_; focus (intro vs W m hm0 ⟨hR, hM⟩ hdep K hK; have e0 : vs 0 = .slice (some ⟨b, off, none⟩) ns.length c := depOf hdep 0 (by kernel_rfl); have e1 : vs 1 = .int .i64 k := depOf hdep 1 (by kernel_rfl); simp only [e0, e1] at hK ⊢; clear hdep; go_wp2_with fail; exact ⟨_, rfl, ⟨hR, hM⟩, rfl, fun _ _ h => h⟩))
        (refine RGAll.plain rfl ?_ ?_; focus (intro vs W m hm0 ⟨hR, hM⟩ hdep K hK; have e2 : vs 2 = .pointer (some ⟨b, off + k * 3, none⟩) := depOf hdep 2 (by kernel_rfl); simp only [e2] at hK ⊢; clear hdep; have p0 := hM.cell HP.out.1 hbg; have p1 := hM.cell HP.out.2.1 hbg; have p2 := hM.cell HP.out.2.2 hbg; go_wp2_with fail; exact ⟨_, rfl, ⟨hR, hM⟩, rfl, fun _ _ h => h⟩))
        (refine RGAll.plain rfl ?_ ?_; focus (intro vs W m hm0 ⟨hR, hM⟩ hdep K hK; clear hdep; obtain ⟨_, _⟩ := blk_facts (hM.heap HV.out hig); go_wp2_with fail; exact ⟨_, rfl, ⟨hR, hM⟩, rfl, fun _ _ h => h⟩))
        (refine RGAll.plain rfl ?_ ?_; focus (intro vs W m hm0 ⟨hR, hM⟩ hdep K hK; have e3 : vs 3 = (Pit.mk ps pa po).v := depOf hdep 3 (by kernel_rfl); have e4 : vs 4 = (Iv.mk is ih).v := depOf hdep 4 (by kernel_rfl); simp only [e3, e4] at hK ⊢; clear hdep; go_wp2_with fail; (go_at_call 73; (with_reducible refine (c_sAddInterval ⟨ps, pa, po⟩ ⟨is, ih⟩ _).mono ?_); rintro e w4 ⟨rfl, hb4⟩); obtain ⟨⟨qs, qa, qo⟩, qb, hq⟩ := addVal_pb (addIv ⟨ps, pa, po⟩ ⟨is, ih⟩); rw [hq]; clear hq; go_wp2_with fail; exact ⟨_, rfl, ⟨hR.below hb4 hR.lt, hM.trans (Mv.of_bel hb4)⟩, ⟨⟨qs, qa, qo⟩, qb, rfl⟩, HS.out _ _ (Mv.of_bel hb4)⟩))
        (refine RGAll.plain rfl ?_ ?_; focus (intro vs W m hm0 ⟨hR, hM⟩ hdep K hK; obtain ⟨⟨qs, qa, qo⟩, pb, e5⟩ := depOf hdep 5 (by kernel_rfl); simp only [e5] at hK ⊢; clear hdep; go_wp2_with fail; exact ⟨_, rfl, ⟨hR, hM⟩, ⟨⟨qs, qa, qo⟩, pb, rfl⟩, fun _ _ h => h⟩))
        (refine RGAll.plain rfl ?_ ?_; focus (intro vs W m hm0 ⟨hR, hM⟩ hdep K hK; obtain ⟨⟨qs, qa, qo⟩, pb, e6⟩ := depOf hdep 6 (by kernel_rfl); simp only [e6] at hK ⊢; clear hdep; go_wp2_with fail; exact ⟨_, rfl, ⟨hR, hM⟩, ⟨⟨qs, qa, qo⟩, rfl⟩, fun _ _ h => h⟩))
        (refine RGAll.plain rfl ?_ ?_; focus (intro vs W m hm0 ⟨hR, hM⟩ hdep K hK; obtain ⟨⟨qs, qa, qo⟩, pb, e6⟩ := depOf hdep 6 (by kernel_rfl); simp only [e6] at hK ⊢; clear hdep; go_wp2_with fail; exact ⟨_, rfl, ⟨hR, hM⟩, ⟨_, rfl⟩, fun _ _ h => h⟩))
        (refine RGAll.plain rfl ?_ ?_; focus (intro vs W m hm0 ⟨hR, hM⟩ hdep K hK; clear hdep; go_wp2_with fail; exact ⟨_, rfl, ⟨hR.alloc _, hM.trans (Mv.alloc _ _)⟩, ⟨_, ⟨0, 0, 0⟩, rfl, hM.size, heap_alloc_new W _⟩, HS.out _ _ (Mv.alloc _ _)⟩))
        (refine RGAll.plain rfl ?_ ?_; focus (intro vs W m hm0 ⟨hR, hM⟩ hdep K hK; obtain ⟨⟨zs, za, zo⟩, e7⟩ := depOf hdep 7 (by kernel_rfl); obtain ⟨bb, ⟨qs, qa, qo⟩, e9, h1, h2⟩ := depOf hdep 9 (by kernel_rfl); simp only [e7, e9] at hK ⊢; clear hdep; obtain ⟨_, _⟩ := blk_facts h2; go_wp2_with fail; exact ⟨undef, rfl, ⟨Rdr.setCell (Rdr.setCell (Rdr.setCell hR (by show g < bb; omega) _) (by show g < bb; omega) _) (by show g < bb; omega) _, hM.fresh3 h1 _ _ _⟩, trivial, JNx.st (q := ⟨qs, qa, qo⟩) (p := ⟨zs, za, zo⟩) h2⟩))
        (refine RGAll.plain rfl ?_ ?_; focus (intro vs W m hm0 ⟨hR, hM⟩ hdep K hK; obtain ⟨pb, e8⟩ := depOf hdep 8 (by kernel_rfl); simp only [e8] at hK ⊢; clear hdep; go_wp2_with fail; exact ⟨_, rfl, ⟨hR, hM⟩, ⟨pb, rfl⟩, fun _ _ h => h⟩))
        exact RGAll.nil
      · intro vs W ⟨hR, hM⟩ hJ
        obtain ⟨ok, e11⟩ := hJ 11 (by decide)
        obtain ⟨bb, q, e9, h1, h2⟩ := hJ 9 (by decide)
        clear hJ
        generalize vs 11 = v11 at *
        generalize vs 9 = v9 at *
        subst e11 e9
        obtain ⟨qs, qa, qo⟩ := q
        have HO2 := Lib.hid (Mv.own HO.out hM (fun x hx => by rw [hx]; omega))
        have HV2 := Lib.hid (hM.heap HV.out hig)
        have HG2 := Lib.hid (kp_trans HG.out hM.to_kp)
        have HQ2 := Lib.hid hR
        have hr2 : Rdr W g ((m + 2 * (3 - k) + 1) + 1) := hR.mono (by omega)
        have hbbg : ¬ bb = g := by omega
        have HM2 := Lib.hid hM
        have HH2 := Lib.hid h2
        clear hR hM h2
        cases ok
        · obtain ⟨b1, b2⟩ := keyOf_bd ⟨ps, pa, po⟩
          have HP2 := Lib.hid (show W.cell? ⟨b, off + k * 3, none⟩ = some (.int .i64 ps) ∧ W.cell? ⟨b, off + k * 3 + 1, none⟩ = some (.int .i64 pa) ∧ W.cell? ⟨b, off + k * 3 + 2, none⟩ = some (.int .i64 po) from ⟨HM2.out.cell HP.out.1 hbg, HM2.out.cell HP.out.2.1 hbg, HM2.out.cell HP.out.2.2 hbg⟩)
          obtain ⟨p0, p1, p2⟩ := HP2.out
          go_wp2_with fail
          (go_at_call 43; (with_reducible refine (c_sPitchKey ⟨ps, pa, po⟩ _).mono ?_); rintro e w5 ⟨rfl, hb5⟩)
          generalize keyOf ⟨ps, pa, po⟩ = K1 at *
          clear p0 p1 p2
          have hr5 : Rdr w5 g ((m + 2 * (3 - k)) + 1) := (hr2.below hb5 hr2.lt).mono (by omega)
          go_wp2_with fail
          (go_at_call 47; (with_reducible refine (c_pick g (m+2*(3-k)) _ _ ?_ (by omega) (by omega)).mono ?_); (focus (repeat' (first | (with_reducible assumption) | (with_reducible refine Rdr.alloc ?_ _) | (with_reducible refine Rdr.setCell ?_ ?_ _) | (with_reducible refine Rdr.drewN ?_ _) | (with_reducible refine Rdr.drew ?_) | (show _ < _; first | omega | (simp only [size_alloc', size_setCell', size_drew', size_drewN'] at *; omega))))); rintro e w6 ⟨x6, rfl, hx6, hy6, hz6, hrq, hgq⟩; have hsq := hgq.size; (try simp only [size_alloc', size_setCell', size_drew', size_drewN'] at hsq); skip)
          have hx6' := hy6 (by omega)
          have HM6 := Lib.hid ((Mv.of_bel (X := (· = g)) hb5).trans (Mv.of_kp hgq))
          have hr6 := hrq
          clear hrq hgq hr5 hb5 hy6
          go_wp2_with fail
          all_goals
            (go_at_call 69; (with_reducible refine (c_SpellKey _ false _ (by omega) (by omega)).mono ?_); rintro e w7 ⟨⟨zs, za, zo⟩, zb, rfl, hb7⟩)
            have HM7 := Lib.hid (HM6.out.trans (Mv.of_bel hb7))
            have hh7 := HM7.out.heap HH2.out hbbg
            obtain ⟨_, _⟩ := blk_facts hh7
            have HO7 := Lib.hid (Mv.own HO2.out HM7.out (fun x hx => by rw [hx]; omega))
            have HV7 := Lib.hid (HM7.out.heap HV2.out hig)
            have HG7 := Lib.hid (kp_trans HG2.out HM7.out.to_kp)
            have HQ7 := Lib.hid (hr6.below hb7 hr6.lt)
            go_upto_region 9 with fail
            have hS := Mv.set3 w7 bb 0 1 2 (.int .i64 zs) (.int .i64 za) (.int .i64 zo)
            have hh8 : (((w7.setCell ⟨bb, 0, none⟩ (.int .i64 zs)).setCell ⟨bb, 1, none⟩ (.int .i64 za)).setCell ⟨bb, 2, none⟩ (.int .i64 zo)).heap[bb]? = some (.cells #[.int .i64 zs, .int .i64 za, .int .i64 zo] 29 (0, 0)) := by (simp only [heap_alloc_get, heap_setCell_get, heap_drew_get, heap_drewN_get, size_alloc', size_setCell', size_drew', size_drewN', nat_simp1, nat_simp2, nat_simp3, nat_simp4, nat_simp5, if_true, if_false, Option.map_some, *]; first | done | rfl | simp)
            have hQ := Rdr.setCell (Rdr.setCell (Rdr.setCell HQ7.out (p := ⟨bb, 0, none⟩) (by show g < bb; omega) (.int .i64 zs)) (p := ⟨bb, 1, none⟩) (by show g < bb; omega) (.int .i64 za)) (p := ⟨bb, 2, none⟩) (by show g < bb; omega) (.int .i64 zo)
            generalize (((w7.setCell ⟨bb, 0, none⟩ (.int .i64 zs)).setCell ⟨bb, 1, none⟩ (.int .i64 za)).setCell ⟨bb, 2, none⟩ (.int .i64 zo)) = w8 at *
            have HO8w := Lib.hid (Mv.own1 HO7.out hS (by omega))
            have HV8w := Lib.hid (hS.heap HV7.out (by omega))
            have HG8w := Lib.hid (show w.grownBy w8 (some g) from ⟨hS.os.trans HG7.out.os, hS.tape.trans HG7.out.tape, hS.output.trans HG7.out.output, Nat.le_trans HG7.out.size hS.size, fun i hi hne => (hS.block i (Nat.lt_of_lt_of_le hi HG7.out.size) (by show ¬ i = bb; omega)).trans (HG7.out.block i hi hne)⟩)
            have HQ8w := Lib.hid hQ
            have HH8w := Lib.hid hh8
            clear hS hQ hh8 hh7
            obtain ⟨_, _⟩ := blk_facts HH8w.out
            have hbz : w.heap.size ≤ w8.heap.size := HG8w.out.size
            go_wp2_with (at_builtin; go_loud (refine wp_appl (by rfl) (.tmp 49) (.tmp 51) 23 29 rfl _ 3 24 Try.underlying23 info_pit rfl (by decide) (by decide) w.heap.size gv cap k _ rfl (HO8w.out.alloc (.cells #[.int .i64 (Pit.mk zs za zo).step, .int .i64 (Pit.mk zs za zo).alter, .int .i64 (Pit.mk zs za zo).octave] 29)) w8.heap.size 0 1 1 (Pit.cells (Pit.mk zs za zo)) rfl rfl (cells_newQ w8 (Pit.mk zs za zo).step (Pit.mk zs za zo).alter (Pit.mk zs za zo).octave _) (pit_one _) (by omega) (by simp only [size_alloc']; omega) ?_))
            intro g8 cap8 w9 hown8 hgr8 hat8 hlt8
            have HO8 := Lib.hid (show w9.ownsRow w.heap.size 29 3 (.slice (some ⟨g8, 0, none⟩) (k + 1) cap8) (k + 1) (pitCells (ms ++ [(Pit.mk zs za zo)])) by
              rw [pits_snoc]
              exact hown8)
            have HR8 := Lib.hid (rdr_appQ (HQ8w.out.alloc _) hgr8 (by omega))
            have HK8 := Lib.hid (kp_appQ (kp_alloc HG8w.out _) hgr8 (by omega))
            have HV8 := Lib.hid (heap_appA hgr8 (below_heap (bel1 _ _) HV8w.out) (Ne.symm hgn))
            have hg8 : g8 ≠ w1.heap.size := by
              have h1 := (Array.getElem?_eq_some_iff.1 HV8w.out).1
              rcases hat8 with e | e
              · rw [e]; exact hgn
              · rw [e]; first | omega | (rw [size_alloc']; omega)
            clear hown8 hgr8 hat8
            go_wp2_with fail
            go_roundw
            case rel => exact ⟨k + 1, g8, cap8, ms ++ [(Pit.mk zs za zo)], by omega, by go_num, rfl, by simp [HLN.out], HO8.out, HV8.out, HR8.out.mono (by omega), HK8.out, hg8⟩
            case measure => simp [intOf]; omega
        · go_wp2_with fail
          (go_at_call 47; (with_reducible refine (c_pick g (m+2*(3-k)+1) _ _ ?_ (by omega) (by omega)).mono ?_); (focus (repeat' (first | (with_reducible assumption) | (with_reducible refine Rdr.alloc ?_ _) | (with_reducible refine Rdr.setCell ?_ ?_ _) | (with_reducible refine Rdr.drewN ?_ _) | (with_reducible refine Rdr.drew ?_) | (show _ < _; first | omega | (simp only [size_alloc', size_setCell', size_drew', size_drewN'] at *; omega))))); rintro e w3 ⟨x3, rfl, hx3, hy3, hz3, hrq, hgq⟩; have hsq := hgq.size; (try simp only [size_alloc', size_setCell', size_drew', size_drewN'] at hsq); skip)
          have hx3' := hy3 (by omega)
          have HO3 := Lib.hid (pick_ownQ HO2.out hgq (by omega))
          have HG3 := Lib.hid (kp_trans HG2.out hgq)
          have HV3 := Lib.hid ((Mv.of_kp hgq).heap HV2.out hig)
          have HH3 := Lib.hid ((Mv.of_kp hgq).heap HH2.out hbbg)
          have HM3 := Lib.hid (HM2.out.trans (Mv.of_kp hgq))
          have HQ3 := Lib.hid (hrq.mono (m' := m + 2 * (3 - k)) (by omega))
          have hr3 := hrq
          clear hrq hgq hr2
          by_cases hx0 : x3 = 0
          · subst hx0
            obtain ⟨b1, b2⟩ := keyOf_bd ⟨ps, pa, po⟩
            have HP3 := Lib.hid (show w3.cell? ⟨b, off + k * 3, none⟩ = some (.int .i64 ps) ∧ w3.cell? ⟨b, off + k * 3 + 1, none⟩ = some (.int .i64 pa) ∧ w3.cell? ⟨b, off + k * 3 + 2, none⟩ = some (.int .i64 po) from ⟨HM3.out.cell HP.out.1 hbg, HM3.out.cell HP.out.2.1 hbg, HM3.out.cell HP.out.2.2 hbg⟩)
            obtain ⟨p0, p1, p2⟩ := HP3.out
            go_wp2_with fail
            (go_at_call 43; (with_reducible refine (c_sPitchKey ⟨ps, pa, po⟩ _).mono ?_); rintro e w5 ⟨rfl, hb5⟩)
            generalize keyOf ⟨ps, pa, po⟩ = K1 at *
            clear p0 p1 p2
            have hr5 : Rdr w5 g ((m + 2 * (3 - k)) + 1) := (hr3.below hb5 hr3.lt).mono (by omega)
            go_wp2_with fail
            (go_at_call 47; (with_reducible refine (c_pick g (m+2*(3-k)) _ _ ?_ (by omega) (by omega)).mono ?_); (focus (repeat' (first | (with_reducible assumption) | (with_reducible refine Rdr.alloc ?_ _) | (with_reducible refine Rdr.setCell ?_ ?_ _) | (with_reducible refine Rdr.drewN ?_ _) | (with_reducible refine Rdr.drew ?_) | (show _ < _; first | omega | (simp only [size_alloc', size_setCell', size_drew', size_drewN'] at *; omega))))); rintro e w6 ⟨x6, rfl, hx6, hy6, hz6, hrq, hgq⟩; have hsq := hgq.size; (try simp only [size_alloc', size_setCell', size_drew', size_drewN'] at hsq); skip)
            have hx6' := hy6 (by omega)
            have HM6 := Lib.hid ((Mv.of_bel (X := (· = g)) hb5).trans (Mv.of_kp hgq))
            have hr6 := hrq
            clear hrq hgq hr5 hb5 hy6
            go_wp2_with fail
            all_goals
              (go_at_call 69; (with_reducible refine (c_SpellKey _ false _ (by omega) (by omega)).mono ?_); rintro e w7 ⟨⟨zs, za, zo⟩, zb, rfl, hb7⟩)
              have HM7 := Lib.hid (HM6.out.trans (Mv.of_bel hb7))
              have hh7 := HM7.out.heap HH3.out hbbg
              obtain ⟨_, _⟩ := blk_facts hh7
              have HO7 := Lib.hid (Mv.own HO3.out HM7.out (fun x hx => by rw [hx]; omega))
              have HV7 := Lib.hid (HM7.out.heap HV3.out hig)
              have HG7 := Lib.hid (kp_trans HG3.out HM7.out.to_kp)
              have HQ7 := Lib.hid (hr6.below hb7 hr6.lt)
              go_upto_region 9 with fail
              have hS := Mv.set3 w7 bb 0 1 2 (.int .i64 zs) (.int .i64 za) (.int .i64 zo)
              have hh8 : (((w7.setCell ⟨bb, 0, none⟩ (.int .i64 zs)).setCell ⟨bb, 1, none⟩ (.int .i64 za)).setCell ⟨bb, 2, none⟩ (.int .i64 zo)).heap[bb]? = some (.cells #[.int .i64 zs, .int .i64 za, .int .i64 zo] 29 (0, 0)) := by (simp only [heap_alloc_get, heap_setCell_get, heap_drew_get, heap_drewN_get, size_alloc', size_setCell', size_drew', size_drewN', nat_simp1, nat_simp2, nat_simp3, nat_simp4, nat_simp5, if_true, if_false, Option.map_some, *]; first | done | rfl | simp)
              have hQ := Rdr.setCell (Rdr.setCell (Rdr.setCell HQ7.out (p := ⟨bb, 0, none⟩) (by show g < bb; omega) (.int .i64 zs)) (p := ⟨bb, 1, none⟩) (by show g < bb; omega) (.int .i64 za)) (p := ⟨bb, 2, none⟩) (by show g < bb; omega) (.int .i64 zo)
              generalize (((w7.setCell ⟨bb, 0, none⟩ (.int .i64 zs)).setCell ⟨bb, 1, none⟩ (.int .i64 za)).setCell ⟨bb, 2, none⟩ (.int .i64 zo)) = w8 at *
              have HO8w := Lib.hid (Mv.own1 HO7.out hS (by omega))
              have HV8w := Lib.hid (hS.heap HV7.out (by omega))
              have HG8w := Lib.hid (show w.grownBy w8 (some g) from ⟨hS.os.trans HG7.out.os, hS.tape.trans HG7.out.tape, hS.output.trans HG7.out.output, Nat.le_trans HG7.out.size hS.size, fun i hi hne => (hS.block i (Nat.lt_of_lt_of_le hi HG7.out.size) (by show ¬ i = bb; omega)).trans (HG7.out.block i hi hne)⟩)
              have HQ8w := Lib.hid hQ
              have HH8w := Lib.hid hh8
              clear hS hQ hh8 hh7
              obtain ⟨_, _⟩ := blk_facts HH8w.out
              have hbz : w.heap.size ≤ w8.heap.size := HG8w.out.size
              go_wp2_with (at_builtin; go_loud (refine wp_appl (by rfl) (.tmp 49) (.tmp 51) 23 29 rfl _ 3 24 Try.underlying23 info_pit rfl (by decide) (by decide) w.heap.size gv cap k _ rfl (HO8w.out.alloc (.cells #[.int .i64 (Pit.mk zs za zo).step, .int .i64 (Pit.mk zs za zo).alter, .int .i64 (Pit.mk zs za zo).octave] 29)) w8.heap.size 0 1 1 (Pit.cells (Pit.mk zs za zo)) rfl rfl (cells_newQ w8 (Pit.mk zs za zo).step (Pit.mk zs za zo).alter (Pit.mk zs za zo).octave _) (pit_one _) (by omega) (by simp only [size_alloc']; omega) ?_))
              intro g8 cap8 w9 hown8 hgr8 hat8 hlt8
              have HO8 := Lib.hid (show w9.ownsRow w.heap.size 29 3 (.slice (some ⟨g8, 0, none⟩) (k + 1) cap8) (k + 1) (pitCells (ms ++ [(Pit.mk zs za zo)])) by
                rw [pits_snoc]
                exact hown8)
              have HR8 := Lib.hid (rdr_appQ (HQ8w.out.alloc _) hgr8 (by omega))
              have HK8 := Lib.hid (kp_appQ (kp_alloc HG8w.out _) hgr8 (by omega))
              have HV8 := Lib.hid (heap_appA hgr8 (below_heap (bel1 _ _) HV8w.out) (Ne.symm hgn))
              have hg8 : g8 ≠ w1.heap.size := by
                have h1 := (Array.getElem?_eq_some_iff.1 HV8w.out).1
                rcases hat8 with e | e
                · rw [e]; exact hgn
                · rw [e]; first | omega | (rw [size_alloc']; omega)
              clear hown8 hgr8 hat8
              go_wp2_with fail
              go_roundw
              case rel => exact ⟨k + 1, g8, cap8, ms ++ [(Pit.mk zs za zo)], by omega, by go_num, rfl, by simp [HLN.out], HO8.out, HV8.out, HR8.out.mono (by omega), HK8.out, hg8⟩
              case measure => simp [intOf]; omega
          · obtain ⟨_, _⟩ := blk_facts HH3.out
            have hbz : w.heap.size ≤ w3.heap.size := HG3.out.size
            go_wp2_with (at_builtin; go_loud (refine wp_appl (by rfl) (.tmp 49) (.tmp 51) 23 29 rfl _ 3 24 Try.underlying23 info_pit rfl (by decide) (by decide) w.heap.size gv cap k _ rfl (HO3.out.alloc (.cells #[.int .i64 (Pit.mk qs qa qo).step, .int .i64 (Pit.mk qs qa qo).alter, .int .i64 (Pit.mk qs qa qo).octave] 29)) w3.heap.size 0 1 1 (Pit.cells (Pit.mk qs qa qo)) rfl rfl (cells_newQ w3 (Pit.mk qs qa qo).step (Pit.mk qs qa qo).alter (Pit.mk qs qa qo).octave _) (pit_one _) (by omega) (by simp only [size_alloc']; omega) ?_))
            intro g8 cap8 w9 hown8 hgr8 hat8 hlt8
            have HO8 := Lib.hid (show w9.ownsRow w.heap.size 29 3 (.slice (some ⟨g8, 0, none⟩) (k + 1) cap8) (k + 1) (pitCells (ms ++ [(Pit.mk qs qa qo)])) by
              rw [pits_snoc]
              exact hown8)
            have HR8 := Lib.hid (rdr_appQ (HQ3.out.alloc _) hgr8 (by omega))
            have HK8 := Lib.hid (kp_appQ (kp_alloc HG3.out _) hgr8 (by omega))
            have HV8 := Lib.hid (heap_appA hgr8 (below_heap (bel1 _ _) HV3.out) (Ne.symm hgn))
            have hg8 : g8 ≠ w1.heap.size := by
              have h1 := (Array.getElem?_eq_some_iff.1 HV3.out).1
              rcases hat8 with e | e
              · rw [e]; exact hgn
              · rw [e]; first | omega | (rw [size_alloc']; omega)
            clear hown8 hgr8 hat8
            go_wp2_with fail
            go_roundw
            case rel => exact ⟨k + 1, g8, cap8, ms ++ [(Pit.mk qs qa qo)], by omega, by go_num, rfl, by simp [HLN.out], HO8.out, HV8.out, HR8.out.mono (by omega), HK8.out, hg8⟩
            case measure => simp [intOf]; omega
    · have hke : k = ns.length := by omega
      go_wp2_with fail
      go_ret
      exact ⟨_, ms, rfl, by rw [HLN.out]; exact Rd.of_own HO.out, by rw [HLN.out]; omega, hrd.mono (by omega), HG.out⟩
def DMv (w : World) (e : Ending) (w' : World) : Prop :=
  ∃ (u v : Value) (la lb : List Pit), e = .returned (.tuple #[u, v]) ∧ Rd w' u 3 la.length (pitCells la) ∧ Rd w' v 3 lb.length (pitCells lb) ∧ Below w.heap.size w w'
theorem c_DrawMoveFault (v : Value) (bs : List Int) (w : World) (h : Rd w v 1 bs.length (byteCells bs)) (hb : ∀ x ∈ bs, 0 ≤ x ∧ x ≤ 255) :
    Calls Try.prog 14 #[v] w (DMv w) := by
  go_enter Try.func14, Try.ntmps14
  go_wp2_with fail
  (go_at_call 38; (with_reducible refine (c_open _ _ _ (h) hb).mono ?_); rintro e w1 ⟨g, rfl, hg, hr1, hbq⟩; have hzq := hbq.size; (try simp only [size_alloc', size_setCell', size_drew', size_drewN'] at hzq hg); skip)
  have hr2 : Rdr w1 g (30 + 22) := hr1.mono (by omega)
  clear hr1
  go_wp2_with fail
  (go_at_call 37; (with_reducible refine (c_l20Stack g 30 12 _ hr2 (by omega) (by omega)).mono ?_); rintro e w2 ⟨v2, ns, rfl, hrd, hl, hrq, hgq⟩)
  have HB2 := Lib.hid (below_of_kp hbq hgq (by omega) (by omega))
  have HA2 := Lib.hid hrd
  have hr3 : Rdr w2 g (29 + 1) := hrq
  have hwg : w.heap.size ≤ g := by omega
  have hw12 := hgq.size
  obtain ⟨_, A2, c2, rfl, -, -, -⟩ := hrd
  clear hrq hgq hr2
  go_wp2_with fail
  (go_at_call 47; (with_reducible refine (c_pick g (29) _ _ ?_ (by omega) (by omega)).mono ?_); (focus (repeat' (first | (with_reducible assumption) | (with_reducible refine Rdr.alloc ?_ _) | (with_reducible refine Rdr.setCell ?_ ?_ _) | (with_reducible refine Rdr.drewN ?_ _) | (with_reducible refine Rdr.drew ?_) | (show _ < _; first | omega | (simp only [size_alloc', size_setCell', size_drew', size_drewN'] at *; omega))))); rintro e w3 ⟨x3, rfl, hx3, hy3, hz3, hrq, hgq⟩; have hsq := hgq.size; (try simp only [size_alloc', size_setCell', size_drew', size_drewN'] at hsq); skip)
  have HA3 := Lib.hid (pits_kp (n := 0) hr3 HA2.out hgq)
  have HB3 := Lib.hid (below_of_kp HB2.out hgq hwg (by omega))
  have hr4 := hrq
  have hw23 := hgq.size
  clear hrq hgq hr3 hy3
  by_cases hx0 : x3 = 0
  · subst hx0
    have hr5 : Rdr w3 g (7 + 22) := hr4
    go_wp2_with fail
    (go_at_call 37; (with_reducible refine (c_l20Stack g 7 12 _ hr5 (by omega) (by omega)).mono ?_); rintro e w4 ⟨v4, ms, rfl, hrd, hl4, hrq, hgq⟩)
    go_wp2_with fail
    go_ret2
    exact ⟨_, v4, ns, ms, rfl, pits_kp (n := 0) hr4 HA3.out hgq, hrd, below_of_kp HB3.out hgq hwg (by omega)⟩
  · have hr5 : Rdr w3 g (9 + 20) := hr4
    go_wp2_with fail
    (go_at_call 48; (with_reducible refine (c_l20Next g 9 _ ns _ hr5 HA3.out hl).mono ?_); rintro e w4 ⟨v4, ms, rfl, hrd, hl4, hrq, hgq⟩)
    go_wp2_with fail
    go_ret2
    exact ⟨_, v4, ns, ms, rfl, pits_kp (n := 0) hr4 HA3.out hgq, hrd, below_of_kp HB3.out hgq hwg (by omega)⟩
theorem walk_FnMoveFault (w : World) (v : Value) (bs : List Int) (h : Rd w v 1 bs.length (byteCells bs)) (hb : ∀ x ∈ bs, 0 ≤ x ∧ x ≤ 255) :
    Calls Try.prog 4 #[v] w fun e w' => e = .returned (.bool true) ∧ Below w.heap.size w w' := by
  have h' := Lib.hid h
  obtain ⟨_, A, c, rfl, hnc, hcm, hA⟩ := h
  unfold maxLen at hcm
  clear hA
  by_cases hlen : bs.length ≤ 1048576
  · go_enter Try.func4, Try.ntmps4
    go_wp2_with fail
    (go_at_call 14; (with_reducible refine (c_DrawMoveFault _ bs _ h'.out hb).mono ?_); rintro e w1 ⟨u1, v1, la, lb, rfl, hra, hrb, S2⟩)
    have HA1 := Lib.hid hra
    have HB1 := Lib.hid hrb
    obtain ⟨_, A1, c1, rfl, -, -, -⟩ := hra
    obtain ⟨_, A2, c2, rfl, -, -, -⟩ := hrb
    go_wp2_with fail
    (go_at_call 15; (with_reducible refine (c_MoveFault _ la _ lb _ HA1.out HB1.out).mono ?_); rintro e w2 ⟨rfl, hb2⟩; have S2 := (S2.trans (hb2.mono S2.size)))
    have HA2 := Lib.hid (HA1.out.below (Nat.le_refl _) hb2)
    have HB2 := Lib.hid (HB1.out.below (Nat.le_refl _) hb2)
    go_wp2_with fail
    (go_at_call 16; (with_reducible refine (c_sMoveFault _ la _ lb _ HA2.out HB2.out).mono ?_); rintro e w3 ⟨rfl, hb3⟩; have S2 := (S2.trans (hb3.mono S2.size)))
    have HA3 := Lib.hid (HA2.out.below (Nat.le_refl _) hb3)
    have HB3 := Lib.hid (HB2.out.below (Nat.le_refl _) hb3)
    have hz3 := S2.size
    have HC := Lib.hid (moveF_comm lb la)
    have HL := Lib.hid (fun hne => moveF_left (a := la) (b := lb) hne)
    have hrng := moveF_range la lb
    generalize hq : moveF la lb = q at *
    clear hq
    by_cases hq1 : q = 1
    · subst hq1
      go_wp2_with fail
      (go_at_call 15; (with_reducible refine (c_MoveFault _ lb _ la _ HB3.out HA3.out).mono ?_); rintro e w4 ⟨rfl, hb4⟩; have S2 := (S2.trans (hb4.mono S2.size)))
      rw [HC.out]
      have hz4 := S2.size
      go_wp2_with (go_at_call 12; (with_reducible refine (c_alive _).mono ?_); rintro e wq ⟨rfl, hbq⟩; have hzq := hbq.size; (try simp only [size_alloc', size_setCell', size_drew', size_drewN'] at hzq); skip)
      go_ret
      exact ⟨rfl, S2.trans (hbq.mono hz4)⟩
    · have HL2 := Lib.hid (HL.out hq1)
      have h5 : q = 5 ∨ q = 6 ∨ q = 7 ∨ q = 0 := hrng.resolve_left hq1
      clear hrng hq1
      rcases h5 with rfl | rfl | rfl | rfl
      all_goals
        go_wp2_with fail
        (go_at_call 15; (with_reducible refine (c_MoveFault _ lb _ la _ HB3.out HA3.out).mono ?_); rintro e w4 ⟨rfl, hb4⟩; have S2 := (S2.trans (hb4.mono S2.size)))
        rw [HC.out]
        have HA4 := Lib.hid (HA3.out.below (Nat.le_refl _) hb4)
        go_wp2_with fail
        (go_at_call 15; (with_reducible refine (c_MoveFault _ la _ la _ HA4.out HA4.out).mono ?_); rintro e w5 ⟨rfl, hb5⟩; have S2 := (S2.trans (hb5.mono S2.size)))
        rw [HL2.out]
        go_wp2_with fail
        go_ret
        exact ⟨rfl, S2⟩
  · go_enter Try.func4, Try.ntmps4
    go_wp2_with fail
    go_ret
    exact ⟨rfl, Below.refl _ _⟩
end Go.Proofs.Ytlhekgjckjcbhaa
