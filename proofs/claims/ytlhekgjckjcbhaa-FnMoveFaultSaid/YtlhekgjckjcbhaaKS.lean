/- Drawing four voices. Conditions: none. -/
import Derived.Test.YtlhekgjckjcbhaaK16
import Derived.Test.YtlhekgjckjcbhaaRM
import Derived.Deep.RegionLaw
namespace Go.Proofs.Ytlhekgjckjcbhaa
open Go.RowKit
set_option linter.unusedSimpArgs false
set_option linter.unusedVariables false
set_option maxHeartbeats 16000000
set_option maxRecDepth 100000
def DrewStk (g m : Nat) (w : World) (e : Ending) (w' : World) : Prop :=
  ∃ (v : Value) (ns : List Pit), e = .returned v ∧ Rd w' v 3 ns.length (pitCells ns) ∧ ns.length ≤ 4 ∧ Rdr w' g m ∧ w.grownBy w' (some g)
theorem pits_set3 (p : Pit) : ∀ (ns : List Pit) (x : Nat), x < ns.length →
    (((pitCells ns).set (x * 3) (.int .i64 p.step)).set (x * 3 + 1) (.int .i64 p.alter)).set (x * 3 + 2) (.int .i64 p.octave) = pitCells (ns.set x p) := by
  intro ns
  induction ns with
  | nil => intro x h; simp at h
  | cons q ns ih =>
    intro x h
    cases x with
    | zero => rfl
    | succ x =>
      have h' : x < ns.length := by simpa using h
      rw [List.set_cons_succ]
      show (((cellsOf Pit.cells (q :: ns)).set ((x + 1) * 3) _).set ((x + 1) * 3 + 1) _).set ((x + 1) * 3 + 2) _ = cellsOf Pit.cells (q :: ns.set x p)
      rw [cellsOf_cons, cellsOf_cons, show cellsOf Pit.cells (ns.set x p) = pitCells (ns.set x p) from rfl, ← ih x h',
        show (x + 1) * 3 = (x * 3) + 3 by omega]
      rfl
def JStk (B : Nat) (g b0 k : Nat) (i : Nat) (v : Value) (W : World) : Prop :=
  match i with
  | 0 => v = .slice (some ⟨b0, 0, none⟩) 4 4
  | 1 => v = .int .i64 k
  | 2 => v = .pointer (some ⟨b0, k, none⟩)
  | 3 => IntIn (fun x => 0 ≤ x ∧ x ≤ 48) v
  | 4 => v = .pointer (some ⟨g, 0, none⟩)
  | 5 => IntIn (fun x => 0 ≤ x ∧ x < 19) v
  | 6 => IntIn (fun x => 0 ≤ x ∧ x ≤ 100) v
  | 7 => v = .pointer (some ⟨g, 0, none⟩)
  | 8 => IntIn (fun x => 0 ≤ x) v
  | 9 => ∃ b, v = .bool b
  | 10 => ∃ (p : Pit) (b : Bool), v = .tuple #[p.v, .bool b]
  | 11 => ∃ (p : Pit) (b : Bool), v = .tuple #[p.v, .bool b]
  | 12 => ∃ p : Pit, v = p.v
  | 13 => ∃ b, v = .bool b
  | 14 => ∃ (b : Nat) (p : Pit), v = .pointer (some ⟨b, 0, none⟩) ∧ B ≤ b ∧ W.heap[b]? = some (.cells #[.int .i64 p.step, .int .i64 p.alter, .int .i64 p.octave] 29 (0, 0))
  | 16 => ∃ b, v = .bool b
  | _ => True
theorem JStk.mv {B g b0 k : Nat} {X : Nat → Prop} {W W' : World} (hm : Mv X W W') (hX : ∀ b, X b → b < B) : ∀ j u, JStk B g b0 k j u W → JStk B g b0 k j u W' := by
  intro j u h
  unfold JStk at *
  split at h
  case h_15 =>
    obtain ⟨b, p, h1, h2, h3⟩ := h
    exact ⟨b, p, h1, h2, hm.heap h3 (fun hx => by have := hX b hx; omega)⟩
  all_goals exact h
theorem JStk.st {B g b0 k : Nat} {b : Nat} {q p : Pit} {W : World} (hh : W.heap[b]? = some (.cells #[.int .i64 q.step, .int .i64 q.alter, .int .i64 q.octave] 29 (0, 0))) :
    ∀ j u, JStk B g b0 k j u W → JStk B g b0 k j u (((W.setCell ⟨b, 0, none⟩ (.int .i64 p.step)).setCell ⟨b, 1, none⟩ (.int .i64 p.alter)).setCell ⟨b, 2, none⟩ (.int .i64 p.octave)) := by
  intro j u h
  unfold JStk at *
  split at h
  case h_15 =>
    obtain ⟨b', p', h1, h2, h3⟩ := h
    by_cases hb : b' = b
    · subst hb
      refine ⟨b', p, h1, h2, ?_⟩
      simp only [heap_setCell_get, if_true, h3, Option.map_some]
      rfl
    · refine ⟨b', p', h1, h2, ?_⟩
      simp only [heap_setCell_get, if_neg (Ne.symm hb)]
      exact h3
  all_goals exact h
theorem own_set3 {W : World} {base e gv n cap m x : Nat} {ns : List Pit} {p : Pit} (h : W.ownsRow base e 3 (.slice (some ⟨gv, 0, none⟩) n cap) m (pitCells ns)) (hx : x < ns.length) :
    (((W.setCell ⟨gv, x * 3, none⟩ (.int .i64 p.step)).setCell ⟨gv, x * 3 + 1, none⟩ (.int .i64 p.alter)).setCell ⟨gv, x * 3 + 2, none⟩ (.int .i64 p.octave)).ownsRow base e 3 (.slice (some ⟨gv, 0, none⟩) n cap) m (pitCells (ns.set x p)) := by
  rw [← pits_set3 p ns x hx]
  exact own_setQ (own_setQ (own_setQ h))
theorem c_l20Stack (g m : Nat) (n : Int) (w : World) (h : Rdr w g (m + 22)) (hn : n ≤ 1000000) (hn' : -1000000 ≤ n) :
    Calls Try.prog 37 #[.pointer (some ⟨g, 0, none⟩), .int .i64 n] w (DrewStk g m w) := by
  have hg := h.lt
  go_enter Try.func37, Try.ntmps37
  go_wp2_with fail
  go_loopw [6, 7] (fun s6 s7 wr => ∃ (k gv cap : Nat) (ns : List Pit), k ≤ 4 ∧ s7 = .int .i64 k ∧ s6 = .slice (some ⟨gv, 0, none⟩) k cap ∧ ns.length = k ∧ wr.ownsRow (w.heap.size + 1) 29 3 (.slice (some ⟨gv, 0, none⟩) k cap) k (pitCells ns) ∧
      wr.heap[w.heap.size]? = some (.cells #[.int .i64 28, .int .i64 36, .int .i64 43, .int .i64 48] 3 (0, 0)) ∧ Rdr wr g (m + 14 + 2 * (4 - k)) ∧ w.grownBy wr (some g)) (fun _ s7 _ => 4 - (intOf s7).toNat)
  case atStart =>
    have ho := own_new (w.alloc (.cells #[.int .i64 28, .int .i64 36, .int .i64 43, .int .i64 48] 3)) 29 3
    rw [size_alloc'] at ho
    refine ⟨0, _, _, [], by omega, rfl, rfl, rfl, ho, ?_, (h.alloc _).alloc _, kp_alloc (kp_alloc (World.grownBy.refl _ _) _) _⟩
    exact below_heap (bel1 _ _) (heap_alloc_new w _)
  case round =>
    obtain ⟨k, gv, cap, ns, hk, rfl, rfl, hlen, hown, htab, hrd, hgk⟩ := hrel
    have hz := hgk.size
    have hgv := (hown.lt gv rfl).1
    have hgv2 := (hown.lt gv rfl).2
    have HO := Lib.hid hown
    have HG := Lib.hid hgk
    have HLN := Lib.hid hlen
    have HT := Lib.hid htab
    clear hown hgk hlen htab
    by_cases hlt : k < 4
    · have hgw : g < wr.heap.size := by omega
      have HS := Lib.hid (fun (W W' : World) (hm : Mv (· = g) W W') => JStk.mv (B := wr.heap.size) (g := g) (b0 := w.heap.size) (k := k) hm (fun b hb => by rw [hb]; exact hgw))
      have h4 : k = 0 ∨ k = 1 ∨ k = 2 ∨ k = 3 := by omega
      obtain ⟨tb, htb, htb0, htb1⟩ : ∃ x : Int, wr.cell? ⟨w.heap.size, k, none⟩ = some (.int .i64 x) ∧ 0 ≤ x ∧ x ≤ 48 := by
        rcases h4 with rfl | rfl | rfl | rfl <;> rw [cell_of_row wr w.heap.size _ _ _ (0, 0) HT.out] <;> exact ⟨_, rfl, by decide, by decide⟩
      have HTB := Lib.hid htb
      clear htb h4
      have hrd' : Rdr wr g (m + 14 + 2 * (3 - k) + 2) := hrd.mono (by omega)
      generalize hM1 : m + 14 + 2 * (3 - k) = M1 at hrd'
      have HM1 := Lib.hid hM1
      have hbg : ¬ w.heap.size = g := by omega
      clear hM1 hrd
      go_upto_region 6 with fail
      refine wp_region_rg ?F (fun c W => Rdr W g c ∧ Mv (· = g) wr W) (JStk wr.heap.size g w.heap.size k) (fun i => match i with | 5 => 1 | 8 => 1 | _ => 0) (fun _ => false) M1 ?hF (by kernel_rfl) (by kernel_rfl) (by kernel_rfl) (by kernel_rfl) ?_ ?_ ?_
      case hF =>
        intro vs
        have hk4 : (k : Int) < 4 := by omega
        simp [fillA, Act.put, hlt, hk4]
        rfl
      · exact ⟨hrd'.drew, Mv.drew _⟩
      · (refine RGAll.plain rfl ?_ ?_; focus (intro vs W m hm0 ⟨hR, hM⟩ hdep K hK; clear hdep; go_wp2_with fail; exact ⟨_, rfl, ⟨hR, hM⟩, rfl, fun _ _ h => h⟩))
        (refine RGAll.plain rfl ?_ ?_; focus (intro vs W m hm0 ⟨hR, hM⟩ hdep K hK; clear hdep; go_wp2_with fail; exact ⟨_, rfl, ⟨hR, hM⟩, rfl, fun _ _ h => h⟩))
        (refine RGAll.plain rfl ?_ ?_; focus (intro vs W m hm0 ⟨hR, hM⟩ hdep K hK; have e0 : vs 0 = .slice (some ⟨w.heap.size, 0, none⟩) 4 4 := depOf hdep 0 (by kernel_rfl); have e1 : vs 1 = .int .i64 k := depOf hdep 1 (by kernel_rfl); simp only [e0, e1] at hK ⊢; clear hdep; go_wp2_with fail; exact ⟨_, rfl, ⟨hR, hM⟩, rfl, fun _ _ h => h⟩))
        (refine RGAll.plain rfl ?_ ?_; focus (intro vs W m hm0 ⟨hR, hM⟩ hdep K hK; have e2 : vs 2 = .pointer (some ⟨w.heap.size, k, none⟩) := depOf hdep 2 (by kernel_rfl); simp only [e2] at hK ⊢; clear hdep; have htb := hM.cell HTB.out hbg; go_wp2_with fail; exact ⟨_, rfl, ⟨hR, hM⟩, ⟨tb, rfl, htb0, htb1⟩, fun _ _ h => h⟩))
        (refine RGAll.plain rfl ?_ ?_; focus (intro vs W m hm0 ⟨hR, hM⟩ hdep K hK; clear hdep; go_wp2_with fail; exact ⟨_, rfl, ⟨hR, hM⟩, rfl, fun _ _ h => h⟩))
        (refine RGAll.plain rfl ?_ ?_; focus (intro vs W m hm0 ⟨hR, hM⟩ hdep K hK; have e4 : vs 4 = .pointer (some ⟨g, 0, none⟩) := depOf hdep 4 (by kernel_rfl); simp only [e4] at hK ⊢; clear hdep; have hR' : Rdr W g (m + 1) := hR; go_wp2_with fail; (go_at_call 47; (with_reducible refine (c_pick g (m) _ _ ?_ (by omega) (by omega)).mono ?_); (focus (repeat' (first | (with_reducible assumption) | (with_reducible refine Rdr.alloc ?_ _) | (with_reducible refine Rdr.setCell ?_ ?_ _) | (with_reducible refine Rdr.drewN ?_ _) | (with_reducible refine Rdr.drew ?_) | (show _ < _; first | omega | (simp only [size_alloc', size_setCell', size_drew', size_drewN'] at *; omega))))); rintro e w4 ⟨x4, rfl, hx4, hy4, hz4, hrq, hgq⟩; have hsq := hgq.size; (try simp only [size_alloc', size_setCell', size_drew', size_drewN'] at hsq); skip); go_wp2_with fail; exact ⟨_, rfl, ⟨hrq, hM.trans (Mv.of_kp hgq)⟩, ⟨x4, rfl, hx4, hy4 (by omega)⟩, HS.out _ _ (Mv.of_kp hgq)⟩))
        (refine RGAll.plain rfl ?_ ?_; focus (intro vs W m hm0 ⟨hR, hM⟩ hdep K hK; obtain ⟨x, e3, h1, h2⟩ := depOf hdep 3 (by kernel_rfl); obtain ⟨y, e5, h3, h4⟩ := depOf hdep 5 (by kernel_rfl); simp only [e3, e5] at hK ⊢; clear hdep; go_wp2_with fail; exact ⟨_, rfl, ⟨hR, hM⟩, ⟨_, rfl, by omega, by omega⟩, fun _ _ h => h⟩))
        (refine RGAll.plain rfl ?_ ?_; focus (intro vs W m hm0 ⟨hR, hM⟩ hdep K hK; clear hdep; go_wp2_with fail; exact ⟨_, rfl, ⟨hR, hM⟩, rfl, fun _ _ h => h⟩))
        (refine RGAll.plain rfl ?_ ?_; focus (intro vs W m hm0 ⟨hR, hM⟩ hdep K hK; have e7 : vs 7 = .pointer (some ⟨g, 0, none⟩) := depOf hdep 7 (by kernel_rfl); simp only [e7] at hK ⊢; clear hdep; have hR' : Rdr W g (m + 1) := hR; go_wp2_with fail; (go_at_call 47; (with_reducible refine (c_pick g (m) _ _ ?_ (by omega) (by omega)).mono ?_); (focus (repeat' (first | (with_reducible assumption) | (with_reducible refine Rdr.alloc ?_ _) | (with_reducible refine Rdr.setCell ?_ ?_ _) | (with_reducible refine Rdr.drewN ?_ _) | (with_reducible refine Rdr.drew ?_) | (show _ < _; first | omega | (simp only [size_alloc', size_setCell', size_drew', size_drewN'] at *; omega))))); rintro e w4 ⟨x4, rfl, hx4, hy4, hz4, hrq, hgq⟩; have hsq := hgq.size; (try simp only [size_alloc', size_setCell', size_drew', size_drewN'] at hsq); skip); go_wp2_with fail; exact ⟨_, rfl, ⟨hrq, hM.trans (Mv.of_kp hgq)⟩, ⟨x4, rfl, hx4⟩, HS.out _ _ (Mv.of_kp hgq)⟩))
        (refine RGAll.plain rfl ?_ ?_; focus (intro vs W m hm0 ⟨hR, hM⟩ hdep K hK; obtain ⟨x, e8, h1⟩ := depOf hdep 8 (by kernel_rfl); simp only [e8] at hK ⊢; clear hdep; go_wp2_with fail; exact ⟨_, rfl, ⟨hR, hM⟩, ⟨_, rfl⟩, fun _ _ h => h⟩))
        (refine RGAll.plain rfl ?_ ?_; focus (intro vs W m hm0 ⟨hR, hM⟩ hdep K hK; obtain ⟨x, e6, h1, h2⟩ := depOf hdep 6 (by kernel_rfl); obtain ⟨b, e9⟩ := depOf hdep 9 (by kernel_rfl); simp only [e6, e9] at hK ⊢; clear hdep; go_wp2_with fail; (go_at_call 69; (with_reducible refine (c_SpellKey x b _ (by omega) (by omega)).mono ?_); rintro e w4 ⟨⟨ps, pa, po⟩, pb, rfl, hb4⟩); go_wp2_with fail; exact ⟨_, rfl, ⟨hR.below hb4 hR.lt, hM.trans (Mv.of_bel hb4)⟩, ⟨⟨ps, pa, po⟩, pb, rfl⟩, HS.out _ _ (Mv.of_bel hb4)⟩))
        (refine RGAll.plain rfl ?_ ?_; focus (intro vs W m hm0 ⟨hR, hM⟩ hdep K hK; obtain ⟨⟨ps, pa, po⟩, pb, e10⟩ := depOf hdep 10 (by kernel_rfl); simp only [e10] at hK ⊢; clear hdep; go_wp2_with fail; exact ⟨_, rfl, ⟨hR, hM⟩, ⟨⟨ps, pa, po⟩, pb, rfl⟩, fun _ _ h => h⟩))
        (refine RGAll.plain rfl ?_ ?_; focus (intro vs W m hm0 ⟨hR, hM⟩ hdep K hK; obtain ⟨⟨ps, pa, po⟩, pb, e11⟩ := depOf hdep 11 (by kernel_rfl); simp only [e11] at hK ⊢; clear hdep; go_wp2_with fail; exact ⟨_, rfl, ⟨hR, hM⟩, ⟨⟨ps, pa, po⟩, rfl⟩, fun _ _ h => h⟩))
        (refine RGAll.plain rfl ?_ ?_; focus (intro vs W m hm0 ⟨hR, hM⟩ hdep K hK; obtain ⟨⟨ps, pa, po⟩, pb, e11⟩ := depOf hdep 11 (by kernel_rfl); simp only [e11] at hK ⊢; clear hdep; go_wp2_with fail; exact ⟨_, rfl, ⟨hR, hM⟩, ⟨_, rfl⟩, fun _ _ h => h⟩))
        (refine RGAll.plain rfl ?_ ?_; focus (intro vs W m hm0 ⟨hR, hM⟩ hdep K hK; clear hdep; go_wp2_with fail; exact ⟨_, rfl, ⟨hR.alloc _, hM.trans (Mv.alloc _ _)⟩, ⟨_, ⟨0, 0, 0⟩, rfl, hM.size, heap_alloc_new W _⟩, HS.out _ _ (Mv.alloc _ _)⟩))
        (refine RGAll.plain rfl ?_ ?_; focus (intro vs W m hm0 ⟨hR, hM⟩ hdep K hK; obtain ⟨⟨ps, pa, po⟩, e12⟩ := depOf hdep 12 (by kernel_rfl); obtain ⟨b, ⟨qs, qa, qo⟩, e14, h1, h2⟩ := depOf hdep 14 (by kernel_rfl); simp only [e12, e14] at hK ⊢; clear hdep; obtain ⟨_, _⟩ := blk_facts h2; go_wp2_with fail; exact ⟨undef, rfl, ⟨Rdr.setCell (Rdr.setCell (Rdr.setCell hR (by show g < b; omega) _) (by show g < b; omega) _) (by show g < b; omega) _, hM.fresh3 h1 _ _ _⟩, trivial, JStk.st (q := ⟨qs, qa, qo⟩) (p := ⟨ps, pa, po⟩) h2⟩))
        (refine RGAll.plain rfl ?_ ?_; focus (intro vs W m hm0 ⟨hR, hM⟩ hdep K hK; obtain ⟨b, e13⟩ := depOf hdep 13 (by kernel_rfl); simp only [e13] at hK ⊢; clear hdep; go_wp2_with fail; exact ⟨_, rfl, ⟨hR, hM⟩, ⟨b, rfl⟩, fun _ _ h => h⟩))
        exact RGAll.nil
      · intro vs W ⟨hR, hM⟩ hJ
        obtain ⟨b16, e16⟩ := hJ 16 (by decide)
        obtain ⟨b, ⟨ps, pa, po⟩, e14, h1, h2⟩ := hJ 14 (by decide)
        clear hJ
        generalize vs 16 = v16 at *
        generalize vs 14 = v14 at *
        subst e16 e14
        obtain ⟨_, _⟩ := blk_facts h2
        have HW := Lib.hid (Mv.own HO.out hM (fun x hx => by rw [hx]; omega))
        have HTw := Lib.hid (hM.heap HT.out hbg)
        have hbz : w.heap.size + 1 ≤ W.heap.size := by have := hM.size; omega
        have HGw := Lib.hid (kp_trans HG.out hM.to_kp)
        have HRw := Lib.hid hR
        clear hR hM
        go_wp2_with (at_builtin; go_loud (refine wp_appl (by rfl) (.tmp 30) (.tmp 32) 23 29 rfl _ 3 24 Try.underlying23 info_pit rfl (by decide) (by decide) (w.heap.size + 1) gv cap k _ rfl (HW.out.alloc (.cells #[.int .i64 ps, .int .i64 pa, .int .i64 po] 29)) W.heap.size 0 1 1 (Pit.cells ⟨ps, pa, po⟩) rfl rfl (cells_newQ W ps pa po _) (pit_one _) (by omega) (by simp only [size_alloc']; omega) ?_))
        intro g8 cap8 w8 hown8 hgr8 hat8 hlt8
        have HO8 := Lib.hid (show w8.ownsRow (w.heap.size + 1) 29 3 (.slice (some ⟨g8, 0, none⟩) (k + 1) cap8) (k + 1) (pitCells (ns ++ [Pit.mk ps pa po])) by
          rw [pits_snoc]
          exact hown8)
        have HR8 := Lib.hid (rdr_appQ (HRw.out.alloc _) hgr8 (by omega))
        have HK8 := Lib.hid (kp_appQ (kp_alloc HGw.out _) hgr8 (by omega))
        have HT8 := Lib.hid (heap_appA hgr8 (below_heap (bel1 _ _) HTw.out) (by omega))
        clear hown8 hgr8 hat8
        go_wp2_with fail
        go_roundw
        case rel => exact ⟨k + 1, g8, cap8, ns ++ [Pit.mk ps pa po], by omega, by go_num, rfl, by simp [HLN.out], HO8.out, HT8.out, HR8.out.mono (by rw [← HM1.out]; omega), HK8.out⟩
        case measure => simp [intOf]; omega
    · have hk4 : k = 4 := by omega
      subst hk4
      have hcap := own_some HO.out (by omega)
      obtain ⟨_, _, he, hcp1, hcp2⟩ := hcap
      cases he
      unfold maxLen at hcp2
      have hr0 : Rdr wr g ((m + 13) + 1) := hrd
      clear hrd
      go_wp2_with fail
      (go_at_call 66; (with_reducible refine (c_odd g (m+13) _ _ ?_ hn hn').mono ?_); (focus (repeat' (first | (with_reducible assumption) | (with_reducible refine Rdr.alloc ?_ _) | (with_reducible refine Rdr.setCell ?_ ?_ _) | (with_reducible refine Rdr.drewN ?_ _) | (with_reducible refine Rdr.drew ?_) | (show _ < _; first | omega | (simp only [size_alloc', size_setCell', size_drew', size_drewN'] at *; omega))))); rintro e w2 ⟨b2, rfl, hrq, hgq⟩; have hsq := hgq.size; (try simp only [size_alloc', size_setCell', size_drew', size_drewN'] at hsq); skip)
      have HO2 := Lib.hid (pick_ownQ HO.out hgq (by omega))
      have HG2 := Lib.hid (kp_trans HG.out hgq)
      have hlen := HLN.out
      cases b2
      · go_wp2_with fail
        go_ret
        exact ⟨_, ns, rfl, by rw [hlen]; exact Rd.of_own HO2.out, by omega, hrq.mono (by omega), HG2.out⟩
      · have hr3 : Rdr w2 g ((m + 12) + 1) := hrq
        clear hrq hgq
        go_wp2_with fail
        (go_at_call 47; (with_reducible refine (c_pick g (m+12) _ _ ?_ (by omega) (by omega)).mono ?_); (focus (repeat' (first | (with_reducible assumption) | (with_reducible refine Rdr.alloc ?_ _) | (with_reducible refine Rdr.setCell ?_ ?_ _) | (with_reducible refine Rdr.drewN ?_ _) | (with_reducible refine Rdr.drew ?_) | (show _ < _; first | omega | (simp only [size_alloc', size_setCell', size_drew', size_drewN'] at *; omega))))); rintro e w3 ⟨x3, rfl, hx3, hy3, hz3, hrq, hgq⟩; have hsq := hgq.size; (try simp only [size_alloc', size_setCell', size_drew', size_drewN'] at hsq); skip)
        have hx3' := hy3 (by omega)
        have HO3 := Lib.hid (pick_ownQ HO2.out hgq (by omega))
        have HG3 := Lib.hid (kp_trans HG2.out hgq)
        have hgv3 := (HO3.out.lt gv rfl).2
        have hr4 : Rdr w3 g (m + 12) := hrq
        clear hrq hgq hy3
        have h3 : x3 = 0 ∨ x3 = 1 ∨ x3 = 2 := by omega
        rcases h3 with rfl | rfl | rfl
        · obtain ⟨p, tl, rfl⟩ := ne_cons (ns := ns) (by omega)
          have htl : tl.length = 3 := by simp at hlen; omega
          go_wp2_with fail
          go_ret
          refine ⟨_, tl, rfl, ?_, by omega, hr4.mono (by omega), HG3.out⟩
          have := rd_tail (l := tl) (p := p) (cap := cap) (g := gv) (W := w3) (base := w.heap.size + 1) (e := 29) (by rw [hlen]; exact HO3.out)
          rw [htl] at this ⊢
          exact this
        · have hr5 : Rdr w3 g ((m + 11) + 1) := hr4
          have hgvg : g < gv := by omega
          have hwv : w.heap.size ≤ gv := by omega
          go_wp2_with fail
          (go_at_call 47; (with_reducible refine (c_pick g (m+11) _ _ ?_ (by omega) (by omega)).mono ?_); (focus (repeat' (first | (with_reducible assumption) | (with_reducible refine Rdr.alloc ?_ _) | (with_reducible refine Rdr.setCell ?_ ?_ _) | (with_reducible refine Rdr.drewN ?_ _) | (with_reducible refine Rdr.drew ?_) | (show _ < _; first | omega | (simp only [size_alloc', size_setCell', size_drew', size_drewN'] at *; omega))))); rintro e w4 ⟨x4, rfl, hx4, hy4, hz4, hrq, hgq⟩; have hsq := hgq.size; (try simp only [size_alloc', size_setCell', size_drew', size_drewN'] at hsq); skip)
          have hx4' := hy4 (by omega)
          obtain ⟨x, rfl⟩ := Int.eq_ofNat_of_zero_le hx4
          have HO4 := Lib.hid (pick_ownQ HO3.out hgq (by omega))
          have HG4 := Lib.hid (kp_trans HG3.out hgq)
          have hr6 : Rdr w4 g (m + 11) := hrq
          clear hrq hgq hy4
          go_wp2_with fail
          (go_at_call 70; (with_reducible refine (c_l20Pitch g m 1 _ ?_ (by omega) (by omega)).mono ?_); (focus exact hr6); rintro e w5 ⟨⟨ps, pa, po⟩, rfl, hps, hrq, hgq⟩)
          have HO5 := Lib.hid (pick_ownQ HO4.out hgq (by omega))
          have HG5 := Lib.hid (kp_trans HG4.out hgq)
          have hr7 := hrq
          clear hrq hgq
          have hx4n : x < 4 := by omega
          obtain ⟨c0, c1, c2⟩ := pit_at (own_cells HO5.out) x (by omega)
          simp only [Nat.zero_add] at c0 c1 c2
          have hfz := frozen_ownQ HO5.out
          have HO6 := Lib.hid (own_set3 (p := ⟨ps, pa, po⟩) HO5.out (x := x) (by omega))
          go_wp2_with fail
          go_ret
          refine ⟨_, ns.set x ⟨ps, pa, po⟩, rfl, ?_, by rw [List.length_set]; omega, Rdr.setCell (Rdr.setCell (Rdr.setCell hr7 (by show g < gv; omega) _) (by show g < gv; omega) _) (by show g < gv; omega) _, kp_setCell (kp_setCell (kp_setCell HG5.out (.inr hwv) _) (.inr hwv) _) (.inr hwv) _⟩
          rw [List.length_set, hlen]
          exact Rd.of_own HO6.out
        · obtain ⟨⟨ps, pa, po⟩, tl, rfl⟩ := ne_cons (ns := ns) (by omega)
          have htl : tl.length = 3 := by simp at hlen; omega
          have HO4 := HO3.out
          rw [← hlen] at HO4
          obtain ⟨o0, o1, o2⟩ := pits_first (own_cells HO4)
          have hfz := frozen_ownQ HO3.out
          have HOs := Lib.hid (show (w3.setCell ⟨gv, 2, none⟩ (.int .i64 1)).ownsRow (w.heap.size + 1) 29 3 (.slice (some ⟨gv, 0, none⟩) 4 cap) 4 (pitCells (⟨ps, pa, 1⟩ :: tl)) by
            have := own_setQ (i := 2) (u := .int .i64 1) HO3.out
            rw [set_oct] at this
            exact this)
          clear o0 o1 HO4
          go_wp2_with fail
          go_ret
          refine ⟨_, ⟨ps, pa, 1⟩ :: tl, rfl, ?_, by simp; omega, (hr4.setCell (p := ⟨gv, 2, none⟩) (by show g < gv; omega) _).mono (by omega), kp_setCell HG3.out (p := ⟨gv, 2, none⟩) (.inr (by show w.heap.size ≤ gv; omega)) _⟩
          have := Rd.of_own HOs.out
          rw [List.length_cons, htl]
          exact this
end Go.Proofs.Ytlhekgjckjcbhaa
