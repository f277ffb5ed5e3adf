/- Chords of the reference. Conditions: none. -/
import Derived.Test.YtiameebjcmnmeaaK7
import Derived.Test.YtiameebjcmnmeaaN6
import Derived.Test.YtiameebjcmnmeaaQT
import Derived.Deep.RegionLaw
namespace Go.Proofs.Ytiameebjcmnmeaa
open Go.RowKit
set_option linter.unusedSimpArgs false
set_option linter.unusedVariables false
set_option maxHeartbeats 16000000
def thirdT (n : Nat) : Int := [4, 3, 3, 4, 4, 4, 3, 3, 3].getD n 0
def fifthT (n : Nat) : Int := [7, 7, 6, 8, 7, 7, 7, 6, 6].getD n 0
def sevenT (n : Nat) : Int := [0, 0, 0, 0, 10, 11, 10, 10, 9].getD n 0
theorem halves_form {n : Nat} (h : n ≤ 8) : (n < 4 → halvesOf n = [0, thirdT n, fifthT n] ∧ sevenT n = 0) ∧ (¬ n < 4 → halvesOf n = [0, thirdT n, fifthT n, sevenT n] ∧ 0 < sevenT n ∧ sevenT n < 100) := by
  have h9 : n = 0 ∨ n = 1 ∨ n = 2 ∨ n = 3 ∨ n = 4 ∨ n = 5 ∨ n = 6 ∨ n = 7 ∨ n = 8 := by omega
  rcases h9 with rfl | rfl | rfl | rfl | rfl | rfl | rfl | rfl | rfl <;> decide
def toneCells : List Int → Nat → List Value
  | [], _ => []
  | h :: r, i => .int .i64 (2 * (i : Int)) :: .int .i64 h :: toneCells r (i + 1)
theorem toneCells_at : ∀ (l : List Int) (i j : Nat) (hj : j < l.length), (toneCells l i)[j * 2]? = some (.int .i64 (2 * ((i + j : Nat) : Int))) ∧ (toneCells l i)[j * 2 + 1]? = some (.int .i64 l[j])
  | [], _, _, hj => absurd hj (by simp)
  | h :: r, i, 0, _ => ⟨rfl, rfl⟩
  | h :: r, i, j + 1, hj => by
    have := toneCells_at r (i + 1) j (by simpa using hj)
    rw [show (j + 1) * 2 = j * 2 + 1 + 1 by omega]
    simp only [toneCells, List.getElem?_cons_succ, List.getElem_cons_succ]
    rw [show i + (j + 1) = i + 1 + j by omega]
    exact this
theorem toneCells_len : ∀ (l : List Int) (i : Nat), (toneCells l i).length = l.length * 2
  | [], _ => rfl
  | h :: r, i => by simp [toneCells, toneCells_len r (i + 1)]; omega
def TonesOf (hs : List Int) (w : World) (e : Ending) (w' : World) : Prop :=
  ∃ v, e = .returned v ∧ w'.ownsRow w.heap.size 75 2 v hs.length (toneCells hs 0) ∧ Below w.heap.size w w'
theorem own_newN (W : World) (arr : Array Value) (T size n : Nat) (hs : arr.size = n * size) (hn : n ≤ 1000) : (W.alloc (.cells arr T)).ownsRow W.heap.size T size (.slice (some ⟨W.heap.size, 0, none⟩) n n) n arr.toList :=
  ⟨by rw [Array.length_toList, hs], .inr ⟨W.heap.size, n, arr, rfl, Nat.le_refl _, heap_alloc_new W _, Nat.le_refl _, by unfold maxLen; omega, hs, by rw [← hs, ← Array.length_toList, List.take_length]⟩⟩
theorem info_iv : (Try.prog.info? 75).map (fun i => (i.zero, i.size, i.bytes)) = some (some (.agg #[.int .i64 0, .int .i64 0]), 2, 16) := by kernel_rfl
theorem own_cells2 {w : World} {base n : Nat} {e : TypeId} {v : Value} {xs : List Value} (h : w.ownsRow base e 2 v n xs) (hn : 0 < n) :
    ∃ (g cap : Nat) (cur : Array Value), v = .slice (some ⟨g, 0, none⟩) n cap ∧ base ≤ g ∧ g < w.heap.size ∧ w.heap[g]? = some (.cells cur e (0, 0)) ∧ n ≤ cap ∧ cap ≤ maxLen ∧ ∀ (j : Nat) (u : Value), xs[j]? = some u → cur[j]? = some u := by
  rcases h.2 with ⟨_, h0⟩ | ⟨g, cap, cur, hv, hb, hg, h1, h2, hs, ht⟩
  · omega
  · refine ⟨g, cap, cur, hv, hb, (Array.getElem?_eq_some_iff.1 hg).1, hg, h1, h2, fun j u hu => ?_⟩
    rw [← ht, List.getElem?_take] at hu
    split at hu
    · rw [← Array.getElem?_toList]; exact hu
    · cases hu
theorem cells_new2 (W : World) (a b : Int) : ∀ j u, ([.int .i64 a, .int .i64 b] : List Value)[j]? = some u → (W.alloc (.cells #[.int .i64 a, .int .i64 b] 75)).cell? ⟨W.heap.size, 0 + j, none⟩ = some u := by
  intro j u hu
  rw [cell_of_row _ W.heap.size (0 + j) _ _ _ (heap_alloc_new W _)]
  match j, hu with
  | 0, hu => exact hu
  | 1, hu => exact hu
  | j + 2, hu => simp at hu
theorem keep_store3 {w : World} {g b o : Nat} {x : Obj} (h : w.heap[b]? = some x) (hne : g ≠ b) (v0 v1 v2 : Value) :
    (((w.setCell ⟨g, o, none⟩ v0).setCell ⟨g, o + 1, none⟩ v1).setCell ⟨g, o + 2, none⟩ v2).heap[b]? = some x := by
  simp only [heap_setCell_get, if_neg hne]
  exact h
theorem own_setP {base e size n cap m g : Nat} {xs : List Value} {w : World} (h : w.ownsRow base e size (.slice (some ⟨g, 0, none⟩) n cap) m xs) {a : Addr} (hne : a.block ≠ g) (u : Value) : (w.setCell a u).ownsRow base e size (.slice (some ⟨g, 0, none⟩) n cap) m xs :=
  h.kept (row := some a.block) ⟨rfl, rfl, rfl, by simp [World.setCell], fun i hi hn => Below.heap_setCell w a u i (fun hh => hn (by rw [hh]))⟩ (.inr (by simpa [Value.ownBlock] using fun hh => hne hh.symm))
set_option maxRecDepth 100000 in
theorem c_l10Tones (n : Nat) (hn : n ≤ 8) (w : World) :
    Calls Try.prog 55 #[.int .i64 (n : Int)] w (TonesOf (halvesOf n) w) := by
  have hF := halves_form hn
  have h9 : n = 0 ∨ n = 1 ∨ n = 2 ∨ n = 3 ∨ n = 4 ∨ n = 5 ∨ n = 6 ∨ n = 7 ∨ n = 8 := by omega
  have ht : (#[.int .i64 4, .int .i64 3, .int .i64 3, .int .i64 4, .int .i64 4, .int .i64 4, .int .i64 3, .int .i64 3, .int .i64 3] : Array Value)[n]? = some (.int .i64 (thirdT n)) := by
    rcases h9 with rfl | rfl | rfl | rfl | rfl | rfl | rfl | rfl | rfl <;> rfl
  have hf : (#[.int .i64 7, .int .i64 7, .int .i64 6, .int .i64 8, .int .i64 7, .int .i64 7, .int .i64 7, .int .i64 6, .int .i64 6] : Array Value)[n]? = some (.int .i64 (fifthT n)) := by
    rcases h9 with rfl | rfl | rfl | rfl | rfl | rfl | rfl | rfl | rfl <;> rfl
  have hs : (#[.int .i64 0, .int .i64 0, .int .i64 0, .int .i64 0, .int .i64 10, .int .i64 11, .int .i64 10, .int .i64 10, .int .i64 9] : Array Value)[n]? = some (.int .i64 (sevenT n)) := by
    rcases h9 with rfl | rfl | rfl | rfl | rfl | rfl | rfl | rfl | rfl <;> rfl
  obtain ⟨t, hte⟩ : ∃ t, thirdT n = t := ⟨_, rfl⟩
  obtain ⟨f, hfe⟩ : ∃ t, fifthT n = t := ⟨_, rfl⟩
  obtain ⟨s, hse⟩ : ∃ t, sevenT n = t := ⟨_, rfl⟩
  rw [hte] at ht
  rw [hfe] at hf
  rw [hse] at hs
  rw [hte, hfe, hse] at hF
  have HT := Lib.hid ht
  have HFf := Lib.hid hf
  have HS := Lib.hid hs
  clear ht hf hs hte hfe hse h9
  have hn9 : (n : Int) < 9 := by omega
  have hn0 : (0 : Int) ≤ (n : Int) := by omega
  go_enter Try.func55, Try.ntmps55
  go_wp2_with fail
  obtain ⟨W0, hW0⟩ : ∃ W0 : World, W0 = ((w.alloc (.cells #[.int .i64 4, .int .i64 3, .int .i64 3, .int .i64 4, .int .i64 4, .int .i64 4, .int .i64 3, .int .i64 3, .int .i64 3] 3)).alloc (.cells #[.int .i64 7, .int .i64 7, .int .i64 6, .int .i64 8, .int .i64 7, .int .i64 7, .int .i64 7, .int .i64 6, .int .i64 6] 3)).alloc (.cells #[.int .i64 0, .int .i64 0, .int .i64 0, .int .i64 0, .int .i64 10, .int .i64 11, .int .i64 10, .int .i64 10, .int .i64 9] 3) := ⟨_, rfl⟩
  rw [← hW0]
  have HB0 := Lib.hid (show Below w.heap.size w W0 by rw [hW0]; (repeat' (first | (with_reducible exact Below.refl _ _) | (with_reducible refine Below.setCell ?_ ?_ _) | (with_reducible refine Below.alloc ?_ ?_ _) | (with_reducible refine Below.drew ?_) | (with_reducible refine below_drewN ?_ _) | (with_reducible refine Below.trans ?_ (Below.mono (by with_reducible assumption) ?_)) | omega | (simp only [size_alloc', size_setCell', size_drew', size_drewN'] at *; omega))))
  have HL0 := Lib.hid (show W0.heap[w.heap.size]? = some (.cells #[.int .i64 4, .int .i64 3, .int .i64 3, .int .i64 4, .int .i64 4, .int .i64 4, .int .i64 3, .int .i64 3, .int .i64 3] 3 (0, 0)) by rw [hW0]; (simp only [heap_alloc_get, heap_setCell_get, heap_drew_get, heap_drewN_get, size_alloc', size_setCell', size_drew', size_drewN', nat_simp1, nat_simp2, nat_simp3, nat_simp4, nat_simp5, if_true, if_false, Option.map_some, *]; first | done | rfl | simp))
  have HL1 := Lib.hid (show W0.heap[w.heap.size + 1]? = some (.cells #[.int .i64 7, .int .i64 7, .int .i64 6, .int .i64 8, .int .i64 7, .int .i64 7, .int .i64 7, .int .i64 6, .int .i64 6] 3 (0, 0)) by rw [hW0]; (simp only [heap_alloc_get, heap_setCell_get, heap_drew_get, heap_drewN_get, size_alloc', size_setCell', size_drew', size_drewN', nat_simp1, nat_simp2, nat_simp3, nat_simp4, nat_simp5, if_true, if_false, Option.map_some, *]; first | done | rfl | simp))
  have HL2 := Lib.hid (show W0.heap[w.heap.size + 1 + 1]? = some (.cells #[.int .i64 0, .int .i64 0, .int .i64 0, .int .i64 0, .int .i64 10, .int .i64 11, .int .i64 10, .int .i64 10, .int .i64 9] 3 (0, 0)) by rw [hW0]; (simp only [heap_alloc_get, heap_setCell_get, heap_drew_get, heap_drewN_get, size_alloc', size_setCell', size_drew', size_drewN', nat_simp1, nat_simp2, nat_simp3, nat_simp4, nat_simp5, if_true, if_false, Option.map_some, *]; first | done | rfl | simp))
  have hS0 : W0.heap.size = w.heap.size + 1 + 1 + 1 := by rw [hW0]; simp
  clear hW0
  have k0 : W0.cell? ⟨w.heap.size, n, none⟩ = some (.int .i64 t) := by rw [cell_of_row W0 _ n _ _ _ HL0.out]; exact HT.out
  have k1 : W0.cell? ⟨w.heap.size + 1, n, none⟩ = some (.int .i64 f) := by rw [cell_of_row W0 _ n _ _ _ HL1.out]; exact HFf.out
  have K2 := Lib.hid (show W0.cell? ⟨w.heap.size + 1 + 1, n, none⟩ = some (.int .i64 s) by rw [cell_of_row W0 _ n _ _ _ HL2.out]; exact HS.out)
  (refine wp_region_more_tail 11 (by kernel_rfl) (by kernel_rfl) ?_; simp only [List.take_succ_cons, List.take_zero, List.drop_succ_cons, List.drop_zero]; (repeat (go_big_quiet_step (fail))); refine wpQuiet_nil ?_; intro wq hwq; have hbq := below_of_more hwq; clear hwq; have hzq := hbq.size; (try simp only [size_alloc', size_setCell', size_drew', size_drewN'] at hzq); (try (refine keep_heap (b := w.heap.size) hbq ?_ ?_; (first | omega | (simp only [size_alloc', size_setCell', size_drew', size_drewN']; omega)); intro hkq; simp only [heap_alloc_get, heap_setCell_get, heap_drew_get, heap_drewN_get, size_alloc', size_setCell', size_drew', size_drewN', nat_simp1, nat_simp2, nat_simp3, nat_simp4, nat_simp5, if_true, if_false, *] at hkq; obtain ⟨_, _⟩ := blk_facts hkq)); skip)
  have k2 := below_cell hbq K2.out
  have HBq := Lib.hid (HB0.out.trans (hbq.mono HB0.out.size))
  have HO3 := Lib.hid (own_newN wq #[.int .i64 0, .int .i64 0, .int .i64 2, .int .i64 t, .int .i64 4, .int .i64 f] 75 2 3 rfl (by omega))
  have hszq := HBq.out.size
  have hneq : (w.heap.size + 1 + 1 = wq.heap.size) = False := eq_false (by omega)
  have k2' := below_cell (bel1 wq (.cells #[.int .i64 0, .int .i64 0, .int .i64 2, .int .i64 t, .int .i64 4, .int .i64 f] 75)) k2
  clear k0 k1 hbq
  by_cases h4 : n < 4
  · obtain ⟨hh, rfl⟩ := hF.1 h4
    have HH := Lib.hid hh
    clear hF hh
    go_wp2
    go_ret
    exact ⟨_, rfl, by rw [HH.out]; exact own_monoA HO3.out hszq, HBq.out.alloc hszq _⟩
  · obtain ⟨hh, hs0, hs1⟩ := hF.2 h4
    have HH := Lib.hid hh
    have HOa := Lib.hid (HO3.out.alloc (.cells #[.int .i64 6, .int .i64 s] 75))
    have HBa := Lib.hid ((HBq.out.alloc hszq (.cells #[.int .i64 0, .int .i64 0, .int .i64 2, .int .i64 t, .int .i64 4, .int .i64 f] 75)).alloc (by rw [size_alloc']; omega) (.cells #[.int .i64 6, .int .i64 s] 75))
    have HC := Lib.hid (cells_new2 (wq.alloc (.cells #[.int .i64 0, .int .i64 0, .int .i64 2, .int .i64 t, .int .i64 4, .int .i64 f] 75)) 6 s)
    rw [size_alloc'] at HC
    clear hF hh
    go_wp2_with (at_builtin; go_loud (refine wp_appl (by rfl) (.tmp 27) (.tmp 33) 76 75 rfl _ 2 16 Try.underlying76 info_iv rfl (by decide) (by decide) wq.heap.size wq.heap.size 3 3 _ rfl HOa.out (wq.heap.size + 1) 0 1 1 [.int .i64 6, .int .i64 s] rfl rfl HC.out (by intro u hu; simp at hu; rcases hu with rfl | rfl <;> rfl) (by omega) (by simp only [size_alloc']; omega) ?_))
    intro g4 cap4 w4 hown4 hgr4 hat4 hlt4
    have HO4 := Lib.hid hown4
    have HB4 := Lib.hid (bel_app HBa.out HOa.out hgr4 hszq (by simp only [size_alloc']; omega))
    clear hown4 hgr4 hat4
    go_wp2
    go_ret
    exact ⟨_, rfl, by rw [HH.out]; exact own_monoA HO4.out hszq, HB4.out⟩
set_option maxRecDepth 100000 in
theorem c_sChordOf (p : Pit) (kind : Int) (w : World) :
    Calls Try.prog 21 #[p.v, .int .i64 kind] w (ChordPost (chordOf p kind) w) := by
  obtain ⟨s, a, o⟩ := p
  cases hv : pitchValid ⟨s, a, o⟩
  · have HV := Lib.hid (chord_none (root := ⟨s, a, o⟩) (kind := kind) (by rw [hv]; simp))
    have HO := Lib.hid (own_new (w.alloc (.cells #[.int .i64 s, .int .i64 a, .int .i64 o] 32)) 32 3)
    go_enter Try.func21, Try.ntmps21
    go_wp2_with fail
    (go_at_call 54; (with_reducible refine (c_sPitchValid ⟨s, a, o⟩ _).mono ?_); rintro e wq ⟨rfl, hbq⟩; have hzq := hbq.size; (try simp only [size_alloc', size_setCell', size_drew', size_drewN'] at hzq); (try (refine keep_heap (b := w.heap.size) hbq ?_ ?_; (first | omega | (simp only [size_alloc', size_setCell', size_drew', size_drewN']; omega)); intro hkq; simp only [heap_alloc_get, heap_setCell_get, heap_drew_get, heap_drewN_get, size_alloc', size_setCell', size_drew', size_drewN', nat_simp1, nat_simp2, nat_simp3, nat_simp4, nat_simp5, if_true, if_false, *] at hkq; obtain ⟨_, _⟩ := blk_facts hkq)); skip)
    have HO2 := Lib.hid (own_belA HO.out hbq)
    rw [size_alloc'] at HO2
    go_wp2
    go_ret2
    rw [HV.out]
    exact ⟨_, rfl, own_monoA HO2.out (Nat.le_succ _), by simp, by (repeat' (first | (with_reducible exact Below.refl _ _) | (with_reducible refine Below.setCell ?_ ?_ _) | (with_reducible refine Below.alloc ?_ ?_ _) | (with_reducible refine Below.drew ?_) | (with_reducible refine below_drewN ?_ _) | (with_reducible refine Below.trans ?_ (Below.mono (by with_reducible assumption) ?_)) | omega | (simp only [size_alloc', size_setCell', size_drew', size_drewN'] at *; omega)))⟩
  · cases hk : inB kind 0 8
    · have HV := Lib.hid (chord_none (root := ⟨s, a, o⟩) (kind := kind) (by rw [hk]; simp))
      have HO := Lib.hid (own_new (w.alloc (.cells #[.int .i64 s, .int .i64 a, .int .i64 o] 32)) 32 3)
      go_enter Try.func21, Try.ntmps21
      go_wp2_with fail
      (go_at_call 54; (with_reducible refine (c_sPitchValid ⟨s, a, o⟩ _).mono ?_); rintro e wq ⟨rfl, hbq⟩; have hzq := hbq.size; (try simp only [size_alloc', size_setCell', size_drew', size_drewN'] at hzq); (try (refine keep_heap (b := w.heap.size) hbq ?_ ?_; (first | omega | (simp only [size_alloc', size_setCell', size_drew', size_drewN']; omega)); intro hkq; simp only [heap_alloc_get, heap_setCell_get, heap_drew_get, heap_drewN_get, size_alloc', size_setCell', size_drew', size_drewN', nat_simp1, nat_simp2, nat_simp3, nat_simp4, nat_simp5, if_true, if_false, *] at hkq; obtain ⟨_, _⟩ := blk_facts hkq)); skip)
      have HO2 := Lib.hid (own_belA HO.out hbq)
      rw [size_alloc'] at HO2
      go_wp2_with (go_at_call 41; refine (c_l1In _ _ _ _).mono ?_; rintro e w' ⟨rfl, rfl⟩; rw [hk])
      go_ret2
      rw [HV.out]
      exact ⟨_, rfl, own_monoA HO2.out (Nat.le_succ _), by simp, by (repeat' (first | (with_reducible exact Below.refl _ _) | (with_reducible refine Below.setCell ?_ ?_ _) | (with_reducible refine Below.alloc ?_ ?_ _) | (with_reducible refine Below.drew ?_) | (with_reducible refine below_drewN ?_ _) | (with_reducible refine Below.trans ?_ (Below.mono (by with_reducible assumption) ?_)) | omega | (simp only [size_alloc', size_setCell', size_drew', size_drewN'] at *; omega)))⟩
    · obtain ⟨n, rfl⟩ := Int.eq_ofNat_of_zero_le (inB_iff.1 hk).1
      have hn8 : n ≤ 8 := by have := (inB_iff.1 hk).2; omega
      obtain ⟨hs, hhs⟩ : ∃ hs, halvesOf (n : Int) = hs := ⟨_, rfl⟩
      have hlen : hs.length = if (n : Int) < 4 then 3 else 4 := by rw [← hhs]; exact halvesOf_len hk
      have hl4 : hs.length ≤ 4 := by rw [hlen]; split <;> omega
      have hl0 : 0 < hs.length := by rw [hlen]; split <;> omega
      have HV := Lib.hid (show chordOf ⟨s, a, o⟩ (n : Int) = chordTo ⟨s, a, o⟩ hs hs.length by unfold chordOf; rw [if_pos ⟨hv, hk⟩, hhs])
      have HPost := Lib.hid (show ∀ r, chordTo ⟨s, a, o⟩ hs hs.length = r → ∀ e w', ChordPost r w e w' → ChordPost (chordOf ⟨s, a, o⟩ (n : Int)) w e w' from fun r hr e w' hp => by rw [HV.out, hr]; exact hp)
      have HCH := Lib.hid (fun w => show Calls Try.prog 55 #[.int .i64 (n : Int)] w (TonesOf hs w) by rw [← hhs]; exact c_l10Tones n hn8 w)
      have HO0 := Lib.hid (own_new (w.alloc (.cells #[.int .i64 s, .int .i64 a, .int .i64 o] 32)) 32 3)
      clear hlen hhs
      go_enter Try.func21, Try.ntmps21
      go_wp2_with fail
      (go_at_call 54; (with_reducible refine (c_sPitchValid ⟨s, a, o⟩ _).mono ?_); rintro e w1 ⟨rfl, hbq⟩; have hzq := hbq.size; (try simp only [size_alloc', size_setCell', size_drew', size_drewN'] at hzq); (try (refine keep_heap (b := w.heap.size) hbq ?_ ?_; (first | omega | (simp only [size_alloc', size_setCell', size_drew', size_drewN']; omega)); intro hkq; simp only [heap_alloc_get, heap_setCell_get, heap_drew_get, heap_drewN_get, size_alloc', size_setCell', size_drew', size_drewN', nat_simp1, nat_simp2, nat_simp3, nat_simp4, nat_simp5, if_true, if_false, *] at hkq; obtain ⟨_, _⟩ := blk_facts hkq)); skip)
      have hX1 : w1.heap[w.heap.size]? = some (.cells #[.int .i64 s, .int .i64 a, .int .i64 o] 32 (0, 0)) := by assumption
      have HX1 := Lib.hid hX1
      have HB1 := Lib.hid (show Below w.heap.size w w1 by (repeat' (first | (with_reducible exact Below.refl _ _) | (with_reducible refine Below.setCell ?_ ?_ _) | (with_reducible refine Below.alloc ?_ ?_ _) | (with_reducible refine Below.drew ?_) | (with_reducible refine below_drewN ?_ _) | (with_reducible refine Below.trans ?_ (Below.mono (by with_reducible assumption) ?_)) | omega | (simp only [size_alloc', size_setCell', size_drew', size_drewN'] at *; omega))))
      have HO1 := Lib.hid (own_belA HO0.out hbq)
      rw [size_alloc'] at HO1
      have hs1 : w.heap.size + 1 < w1.heap.size := by have := HO1.out.lt (w.heap.size + 1) rfl; omega
      clear hX1 hbq
      go_wp2_with (go_at_call 41; refine (c_l1In _ _ _ _).mono ?_; rintro e w' ⟨rfl, rfl⟩; rw [hk])
      (go_at_call 55; (with_reducible refine (HCH.out _).mono ?_); rintro e W0 ⟨v, rfl, hov, hb0⟩)
      have hz0 := hb0.size
      obtain ⟨bh, caph, cur, rfl, hbh1, hbh2, hbh, hcn, hcm, hcur⟩ := own_cells2 hov hl0
      unfold maxLen at hcm
      have HX0 := Lib.hid (below_heap hb0 HX1.out)
      have HO0 := Lib.hid (own_belA HO1.out hb0)
      have HB0 := Lib.hid (HB1.out.trans (hb0.mono HB1.out.size))
      have HBH := Lib.hid hbh
      have HCUR := Lib.hid hcur
      clear hov hb0 hbh hcur hv
      go_wp2_with fail
      go_loopw [6, 8] (fun o' j wr => ∃ (k g cap : Nat) (out : List Pit), k ≤ hs.length ∧ j = .int .i64 k ∧ o' = .slice (some ⟨g, 0, none⟩) k cap ∧ (g = w.heap.size + 1 ∨ W0.heap.size ≤ g) ∧ chordTo ⟨s, a, o⟩ hs k = some out ∧
        wr.ownsRow (w.heap.size + 1) 32 3 (.slice (some ⟨g, 0, none⟩) k cap) k (pitCells out) ∧ wr.heap[w.heap.size]? = some (.cells #[.int .i64 s, .int .i64 a, .int .i64 o] 32 (0, 0)) ∧
        wr.heap[bh]? = some (.cells cur 75 (0, 0)) ∧ Below w.heap.size w wr ∧ W0.heap.size ≤ wr.heap.size) (fun _ j _ => hs.length - (intOf j).toNat)
      case atStart => exact ⟨0, _, _, [], Nat.zero_le _, rfl, rfl, .inl rfl, rfl, HO0.out, HX0.out, HBH.out, HB0.out, Nat.le_refl _⟩
      case round =>
        obtain ⟨k, g, cap, out, hk4, rfl, rfl, hgw, hsh, hown, hX, hH, hbl, hz0r⟩ := hrel
        have hz := hbl.size
        have hgb := (hown.lt g rfl).1
        have hgl := (hown.lt g rfl).2
        have HSh := Lib.hid hsh
        have HO := Lib.hid hown
        have HX := Lib.hid hX
        have HH := Lib.hid hH
        clear hsh hown
        by_cases hlt : k < hs.length
        · obtain ⟨h, hh⟩ : ∃ h, hs.getD k 0 = h := ⟨_, rfl⟩
          obtain ⟨ca, cb⟩ := toneCells_at hs 0 k hlt
          have hcell0 : wr.cell? ⟨bh, k * 2, none⟩ = some (.int .i64 (2 * (k : Int))) := by
            rw [cell_of_row wr bh (k * 2) _ _ _ hH, HCUR.out _ _ ca, Nat.zero_add]
          have hcell1 : wr.cell? ⟨bh, k * 2 + 1, none⟩ = some (.int .i64 h) := by
            rw [cell_of_row wr bh (k * 2 + 1) _ _ _ hH, HCUR.out _ _ cb, ← hh]
            simp [List.getD, hlt]
          have HFail := Lib.hid (fun hn => chordTo_fail (root := ⟨s, a, o⟩) (hs := hs) (k := k) hn hlt)
          have HStep := Lib.hid (fun (q : Pit) hq => chordTo_step (root := ⟨s, a, o⟩) (hs := hs) (k := k) (p := q) HSh.out hq)
          rw [hh] at HFail HStep
          obtain ⟨_, _⟩ := blk_facts hX
          have hk1 : (0 : Int) ≤ (k : Int) := by omega
          have hk2 : (k : Int) < (hs.length : Int) := by omega
          have hk3 : (k : Int) ≤ 4 := by omega
          clear hX hH hh ca cb
          rcases addVal_cases (addIv ⟨s, a, o⟩ ⟨2 * (k : Int), h⟩) with ⟨⟨q1, q2, q3⟩, hq⟩ | hq
          · have HSt := Lib.hid (HStep.out ⟨q1, q2, q3⟩ hq)
            have HW := Lib.hid (fun w => show Calls Try.prog 56 #[.agg #[.int .i64 s, .int .i64 a, .int .i64 o], .agg #[.int .i64 (2 * (k : Int)), .int .i64 h]] w fun e w' => e = .returned (.tuple #[.agg #[.int .i64 q1, .int .i64 q2, .int .i64 q3], .bool true]) ∧ Below w.heap.size w w' by
              have := c_sAddInterval ⟨s, a, o⟩ ⟨2 * (k : Int), h⟩ w
              rw [hq] at this
              exact this)
            clear hq
            go_wp2_with fail
            have hcz0 := below_cell (bel1 wr (.cells #[.int .i64 0, .int .i64 0, .int .i64 0] 32)) hcell0
            have hcz1 := below_cell (bel1 wr (.cells #[.int .i64 0, .int .i64 0, .int .i64 0] 32)) hcell1
            have hXz := below_heap (bel1 wr (.cells #[.int .i64 0, .int .i64 0, .int .i64 0] 32)) HX.out
            obtain ⟨_, _⟩ := blk_facts hXz
            clear hXz
            have hn1 : (bh = wr.heap.size) = False := eq_false (by omega)
            have hn2 : (wr.heap.size = bh) = False := eq_false (by omega)
            have hn3 : (w.heap.size = wr.heap.size) = False := eq_false (by omega)
            have hn4 : (wr.heap.size = w.heap.size) = False := eq_false (by omega)
            go_region_law (first | (go_simp; (go_at_call 56; (with_reducible refine (HW.out _).mono ?_); rintro e w3 ⟨rfl, hbq⟩; have hzq := hbq.size; (try simp only [size_alloc', size_setCell', size_drew', size_drewN'] at hzq); (try (refine keep_heap (b := wr.heap.size) hbq ?_ ?_; (first | omega | (simp only [size_alloc', size_setCell', size_drew', size_drewN']; omega)); intro hkq; simp only [heap_alloc_get, heap_setCell_get, heap_drew_get, heap_drewN_get, size_alloc', size_setCell', size_drew', size_drewN', nat_simp1, nat_simp2, nat_simp3, nat_simp4, nat_simp5, if_true, if_false, *] at hkq; obtain ⟨_, _⟩ := blk_facts hkq)); skip)))
            all_goals
              clear HFail HStep
              first
              | (have hh7 : w3.heap[wr.heap.size]? = some (.cells #[.int .i64 0, .int .i64 0, .int .i64 0] 32 (0, 0)) := by assumption
                 have hbr : Below wr.heap.size wr w3 := by (repeat' (first | (with_reducible exact Below.refl _ _) | (with_reducible refine Below.setCell ?_ ?_ _) | (with_reducible refine Below.alloc ?_ ?_ _) | (with_reducible refine Below.drew ?_) | (with_reducible refine below_drewN ?_ _) | (with_reducible refine Below.trans ?_ (Below.mono (by with_reducible assumption) ?_)) | omega | (simp only [size_alloc', size_setCell', size_drew', size_drewN'] at *; omega)))
                 have hzr := hbr.size
                 have hb7l : wr.heap.size < w3.heap.size := (Array.getElem?_eq_some_iff.1 hh7).1
                 have HO5 := Lib.hid (own_setP (a := ⟨wr.heap.size, 2, none⟩) (own_setP (a := ⟨wr.heap.size, 1, none⟩) (own_setP (a := ⟨wr.heap.size, 0, none⟩) (own_belA HO.out hbr) (by show wr.heap.size ≠ g; omega) (.int .i64 q1)) (by show wr.heap.size ≠ g; omega) (.int .i64 q2)) (by show wr.heap.size ≠ g; omega) (.int .i64 q3))
                 have HX5 := Lib.hid (keep_store3 (o := 0) (below_heap hbr HX.out) (show wr.heap.size ≠ w.heap.size by omega) (.int .i64 q1) (.int .i64 q2) (.int .i64 q3))
                 have HH5 := Lib.hid (keep_store3 (o := 0) (below_heap hbr HH.out) (show wr.heap.size ≠ bh by omega) (.int .i64 q1) (.int .i64 q2) (.int .i64 q3))
                 have HB5 := Lib.hid (below_store3 (o := 0) (hbl.trans (hbr.mono hz)) (show w.heap.size ≤ wr.heap.size by omega) (.int .i64 q1) (.int .i64 q2) (.int .i64 q3))
                 simp only [Nat.zero_add] at HO5 HX5 HH5 HB5
                 have HOb := Lib.hid (HO5.out.alloc (.cells #[.int .i64 q1, .int .i64 q2, .int .i64 q3] 32))
                 have HXb := Lib.hid (below_heap (bel1 _ (.cells #[.int .i64 q1, .int .i64 q2, .int .i64 q3] 32)) HX5.out)
                 have HHb := Lib.hid (below_heap (bel1 _ (.cells #[.int .i64 q1, .int .i64 q2, .int .i64 q3] 32)) HH5.out)
                 have HBb := Lib.hid (HB5.out.alloc (by simp only [size_setCell']; omega) (.cells #[.int .i64 q1, .int .i64 q2, .int .i64 q3] 32))
                 have HC := Lib.hid (cells_newP (((w3.setCell ⟨wr.heap.size, 0, none⟩ (.int .i64 q1)).setCell ⟨wr.heap.size, 1, none⟩ (.int .i64 q2)).setCell ⟨wr.heap.size, 2, none⟩ (.int .i64 q3)) q1 q2 q3)
                 simp only [size_setCell'] at HC
                 go_wp2_with (at_builtin; go_loud (refine wp_appl (by rfl) (.tmp 41) (.tmp 43) 25 32 rfl _ 3 24 Try.underlying25 info_pit rfl (by decide) (by decide) (w.heap.size + 1) g cap k _ rfl HOb.out w3.heap.size 0 1 1 (Pit.cells ⟨q1, q2, q3⟩) rfl rfl HC.out (pit_one _) (by omega) (by simp only [size_alloc', size_setCell']; omega) ?_))
                 intro g5 cap5 w5 hown5 hgr5 hat5 hlt5
                 have HO6 := Lib.hid hown5
                 have HX6 := Lib.hid (heap_appA hgr5 HXb.out (by omega))
                 have HH6 := Lib.hid (heap_appA hgr5 HHb.out (by omega))
                 have HB6 := Lib.hid (bel_app HBb.out HOb.out hgr5 (by omega) (by simp only [size_alloc', size_setCell']; omega))
                 have hz5 := hgr5.size
                 simp only [size_alloc', size_setCell'] at hz5 hat5
                 have hgw5 : g5 = w.heap.size + 1 ∨ W0.heap.size ≤ g5 := by omega
                 clear hown5 hgr5 hat5
                 go_wp2_with fail
                 go_roundw
                 case rel => exact ⟨k + 1, g5, cap5, out ++ [⟨q1, q2, q3⟩], by omega, by go_num, rfl, hgw5, HSt.out, by rw [pits_snoc]; exact HO6.out, HX6.out, HH6.out, HB6.out, by omega⟩
                 case measure => simp [intOf]; omega
                 done)
              | (skip
                 have hbr : Below wr.heap.size wr w3 := by (repeat' (first | (with_reducible exact Below.refl _ _) | (with_reducible refine Below.setCell ?_ ?_ _) | (with_reducible refine Below.alloc ?_ ?_ _) | (with_reducible refine Below.drew ?_) | (with_reducible refine below_drewN ?_ _) | (with_reducible refine Below.trans ?_ (Below.mono (by with_reducible assumption) ?_)) | omega | (simp only [size_alloc', size_setCell', size_drew', size_drewN'] at *; omega)))
                 have hzr := hbr.size
                 have HOb := Lib.hid (((own_belA HO.out hbr).alloc (.cells #[.int .i64 q1, .int .i64 q2, .int .i64 q3] 32)).alloc (.cells #[.int .i64 q1, .int .i64 q2, .int .i64 q3] 32))
                 have hbb : Below wr.heap.size wr ((w3.alloc (.cells #[.int .i64 q1, .int .i64 q2, .int .i64 q3] 32)).alloc (.cells #[.int .i64 q1, .int .i64 q2, .int .i64 q3] 32)) := by (repeat' (first | (with_reducible exact Below.refl _ _) | (with_reducible refine Below.setCell ?_ ?_ _) | (with_reducible refine Below.alloc ?_ ?_ _) | (with_reducible refine Below.drew ?_) | (with_reducible refine below_drewN ?_ _) | (with_reducible refine Below.trans ?_ (Below.mono (by with_reducible assumption) ?_)) | omega | (simp only [size_alloc', size_setCell', size_drew', size_drewN'] at *; omega)))
                 have HXb := Lib.hid (below_heap hbb HX.out)
                 have HHb := Lib.hid (below_heap hbb HH.out)
                 have HBb := Lib.hid (hbl.trans (hbb.mono hz))
                 have HC := Lib.hid (cells_newP (w3.alloc (.cells #[.int .i64 q1, .int .i64 q2, .int .i64 q3] 32)) q1 q2 q3)
                 rw [size_alloc'] at HC
                 go_wp2_with (at_builtin; go_loud (refine wp_appl (by rfl) (.tmp 41) (.tmp 43) 25 32 rfl _ 3 24 Try.underlying25 info_pit rfl (by decide) (by decide) (w.heap.size + 1) g cap k _ rfl HOb.out (w3.heap.size + 1) 0 1 1 (Pit.cells ⟨q1, q2, q3⟩) rfl rfl HC.out (pit_one _) (by omega) (by simp only [size_alloc', size_setCell']; omega) ?_))
                 intro g5 cap5 w5 hown5 hgr5 hat5 hlt5
                 have HO6 := Lib.hid hown5
                 have HX6 := Lib.hid (heap_appA hgr5 HXb.out (by omega))
                 have HH6 := Lib.hid (heap_appA hgr5 HHb.out (by omega))
                 have HB6 := Lib.hid (bel_app HBb.out HOb.out hgr5 (by omega) (by simp only [size_alloc', size_setCell']; omega))
                 have hz5 := hgr5.size
                 simp only [size_alloc', size_setCell'] at hz5 hat5
                 have hgw5 : g5 = w.heap.size + 1 ∨ W0.heap.size ≤ g5 := by omega
                 clear hown5 hgr5 hat5
                 go_wp2_with fail
                 go_roundw
                 case rel => exact ⟨k + 1, g5, cap5, out ++ [⟨q1, q2, q3⟩], by omega, by go_num, rfl, hgw5, HSt.out, by rw [pits_snoc]; exact HO6.out, HX6.out, HH6.out, HB6.out, by omega⟩
                 case measure => simp [intOf]; omega
                 done)
          · have HE := Lib.hid (HFail.out hq)
            have HW := Lib.hid (fun w => show Calls Try.prog 56 #[.agg #[.int .i64 s, .int .i64 a, .int .i64 o], .agg #[.int .i64 (2 * (k : Int)), .int .i64 h]] w fun e w' => e = .returned (.tuple #[.agg #[.int .i64 0, .int .i64 0, .int .i64 0], .bool false]) ∧ Below w.heap.size w w' by
              have := c_sAddInterval ⟨s, a, o⟩ ⟨2 * (k : Int), h⟩ w
              rw [hq] at this
              exact this)
            clear hq
            go_wp2_with fail
            have hcz0 := below_cell (bel1 wr (.cells #[.int .i64 0, .int .i64 0, .int .i64 0] 32)) hcell0
            have hcz1 := below_cell (bel1 wr (.cells #[.int .i64 0, .int .i64 0, .int .i64 0] 32)) hcell1
            have hXz := below_heap (bel1 wr (.cells #[.int .i64 0, .int .i64 0, .int .i64 0] 32)) HX.out
            obtain ⟨_, _⟩ := blk_facts hXz
            clear hXz
            have hn1 : (bh = wr.heap.size) = False := eq_false (by omega)
            have hn2 : (wr.heap.size = bh) = False := eq_false (by omega)
            have hn3 : (w.heap.size = wr.heap.size) = False := eq_false (by omega)
            have hn4 : (wr.heap.size = w.heap.size) = False := eq_false (by omega)
            go_region_law (first | (go_simp; (go_at_call 56; (with_reducible refine (HW.out _).mono ?_); rintro e w3 ⟨rfl, hbq⟩; have hzq := hbq.size; (try simp only [size_alloc', size_setCell', size_drew', size_drewN'] at hzq); (try (refine keep_heap (b := wr.heap.size) hbq ?_ ?_; (first | omega | (simp only [size_alloc', size_setCell', size_drew', size_drewN']; omega)); intro hkq; simp only [heap_alloc_get, heap_setCell_get, heap_drew_get, heap_drewN_get, size_alloc', size_setCell', size_drew', size_drewN', nat_simp1, nat_simp2, nat_simp3, nat_simp4, nat_simp5, if_true, if_false, *] at hkq; obtain ⟨_, _⟩ := blk_facts hkq)); skip)))
            all_goals
              clear HFail HStep
              first
              | (have hh7 : w3.heap[wr.heap.size]? = some (.cells #[.int .i64 0, .int .i64 0, .int .i64 0] 32 (0, 0)) := by assumption
                 have hbr : Below wr.heap.size wr w3 := by (repeat' (first | (with_reducible exact Below.refl _ _) | (with_reducible refine Below.setCell ?_ ?_ _) | (with_reducible refine Below.alloc ?_ ?_ _) | (with_reducible refine Below.drew ?_) | (with_reducible refine below_drewN ?_ _) | (with_reducible refine Below.trans ?_ (Below.mono (by with_reducible assumption) ?_)) | omega | (simp only [size_alloc', size_setCell', size_drew', size_drewN'] at *; omega)))
                 have hzr := hbr.size
                 have hb7l : wr.heap.size < w3.heap.size := (Array.getElem?_eq_some_iff.1 hh7).1
                 have HB5 := Lib.hid (below_store3 (o := 0) (hbl.trans (hbr.mono hz)) (show w.heap.size ≤ wr.heap.size by omega) (.int .i64 0) (.int .i64 0) (.int .i64 0))
                 simp only [Nat.zero_add] at HB5
                 have hz5 := HB5.out.size
                 have HN5 := Lib.hid (own_new (((w3.setCell ⟨wr.heap.size, 0, none⟩ (.int .i64 0)).setCell ⟨wr.heap.size, 1, none⟩ (.int .i64 0)).setCell ⟨wr.heap.size, 2, none⟩ (.int .i64 0)) 32 3)
                 simp only [size_setCell'] at HN5 hz5
                 go_wp2_with fail
                 go_ret2
                 exact HPost.out _ HE.out _ _ ⟨_, rfl, own_monoA HN5.out hz5, by simp, HB5.out.alloc (by simp only [size_setCell']; omega) _⟩
                 done)
              | (skip
                 have hbr : Below wr.heap.size wr w3 := by (repeat' (first | (with_reducible exact Below.refl _ _) | (with_reducible refine Below.setCell ?_ ?_ _) | (with_reducible refine Below.alloc ?_ ?_ _) | (with_reducible refine Below.drew ?_) | (with_reducible refine below_drewN ?_ _) | (with_reducible refine Below.trans ?_ (Below.mono (by with_reducible assumption) ?_)) | omega | (simp only [size_alloc', size_setCell', size_drew', size_drewN'] at *; omega)))
                 have hzr := hbr.size
                 have hbb : Below wr.heap.size wr (w3.alloc (.cells #[.int .i64 0, .int .i64 0, .int .i64 0] 32)) := by (repeat' (first | (with_reducible exact Below.refl _ _) | (with_reducible refine Below.setCell ?_ ?_ _) | (with_reducible refine Below.alloc ?_ ?_ _) | (with_reducible refine Below.drew ?_) | (with_reducible refine below_drewN ?_ _) | (with_reducible refine Below.trans ?_ (Below.mono (by with_reducible assumption) ?_)) | omega | (simp only [size_alloc', size_setCell', size_drew', size_drewN'] at *; omega)))
                 have HB5 := Lib.hid (hbl.trans (hbb.mono hz))
                 have hz5 := HB5.out.size
                 have HN5 := Lib.hid (own_new (w3.alloc (.cells #[.int .i64 0, .int .i64 0, .int .i64 0] 32)) 32 3)
                 rw [size_alloc'] at HN5
                 go_wp2_with fail
                 go_ret2
                 exact HPost.out _ HE.out _ _ ⟨_, rfl, own_monoA HN5.out (by rw [size_alloc'] at hz5; exact hz5), by simp, HB5.out.alloc hz5 _⟩
                 done)
        · have hke : k = hs.length := by omega
          subst hke
          go_wp2_with fail
          go_ret2
          refine HPost.out _ HSh.out _ _ ⟨.slice (some ⟨g, 0, none⟩) hs.length cap, rfl, ?_, ?_, hbl⟩
          · show wr.ownsRow _ _ _ _ out.length (pitCells out)
            rw [chordTo_len HSh.out]
            exact own_monoA HO.out (by omega)
          · show out.length ≤ 4
            rw [chordTo_len HSh.out]
            exact hl4
end Go.Proofs.Ytiameebjcmnmeaa
