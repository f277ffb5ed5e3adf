/- The reference's reader of notes: the walk. Conditions: none. -/
import Derived.Test.YtaikcpidijekpaaDoorTJ
namespace Go.Proofs.YtaikcpidijekpaaDoor
open Go.RowKit
set_option linter.unusedSimpArgs false
set_option linter.unusedVariables false
set_option maxHeartbeats 8000000
set_option maxRecDepth 100000
theorem head_ex (l : List UInt8) (k : Nat) : (ByteArray.mk l.toArray).extract 0 k = ⟨(l.take k).toArray⟩ := by
  rw [ByteArray.extract_mk]
  simp
theorem getD_app_left (a b : List UInt8) (i : Nat) (h : i < a.length) : (a ++ b).getD i 0 = a[i] := by simp [List.getElem?_append_left h, h]
theorem rdN_spec {l : List UInt8} {k j : Nat} (hk : k ≤ l.length) (h1 : ∀ i, i < k → l.getD i 0 ≠ 47) (h2 : k = l.length ∨ l.getD k 0 = 47) (hj : (l.drop (k + 1)).length ≤ j ∨ 5 ≤ j) :
    ∀ n, noteValid n = true → noteT n = l → candN (l.take k) (tkAt (l.drop (k + 1)) j) (tdAt (l.drop (k + 1)) j) = n := by
  intro n hv h
  rw [noteT_eq hv] at h
  subst h
  obtain rfl := at_unique (fun x hx => (toneT_chars hv x hx).1) h1 h2 hk
  obtain ⟨h3, h4⟩ := tail_read hv
  have e1 : (toneT n ++ 47 :: tailT n).drop ((toneT n).length + 1) = tailT n := by
    rw [show toneT n ++ 47 :: tailT n = (toneT n ++ [47]) ++ tailT n by simp, show (toneT n).length + 1 = (toneT n ++ [47]).length by simp, List.drop_left]
  rw [e1] at hj ⊢
  rw [List.take_left]
  obtain ⟨h5, h6⟩ := h4 j (by omega)
  rw [h5, h6]
  exact candN_tone hv
theorem drop_getD (l : List UInt8) (k p : Nat) (h : k + 1 ≤ p) (hp : p < l.length) : ∃ h2 : p - (k + 1) < (l.drop (k + 1)).length, (l.drop (k + 1))[p - (k + 1)] = l.getD p 0 := by
  refine ⟨by rw [List.length_drop]; omega, ?_⟩
  rw [List.getElem_drop, List.getD_eq_getElem?_getD, List.getElem?_eq_getElem (show p < l.length from hp)]
  simp only [show k + 1 + (p - (k + 1)) = p by omega]
  rfl
theorem tk_step (l : List UInt8) (k p : Nat) (h : k + 1 ≤ p) (hp : p < l.length) :
    tkAt (l.drop (k + 1)) (p + 1 - (k + 1)) = tkF (tkAt (l.drop (k + 1)) (p - (k + 1))) (l.getD p 0) ∧ tdAt (l.drop (k + 1)) (p + 1 - (k + 1)) = (tdAt (l.drop (k + 1)) (p - (k + 1)) || (l.getD p 0 == 126)) := by
  obtain ⟨h2, h3⟩ := drop_getD l k p h hp
  rw [show p + 1 - (k + 1) = (p - (k + 1)) + 1 by omega, tkAt_succ _ _ h2, tdAt_succ _ _ h2, h3]
  exact ⟨rfl, rfl⟩
theorem results_cell_slot {P : Program} {fn : Func} {p q : Tmp} {ty : TypeId} (h : fn.results = #[.cell p ty, .tmp q]) (tmps : Array Value) (w : World) (g : Nat) (t : TypeId) (cs : Array Value) (fr : Nat × Nat) (d : TypeDesc) (v : Value)
    (hp : tmps.getD p undef = .pointer (some ⟨g, 0, none⟩)) (hq : tmps.getD q undef = v) (hg : w.heap[g]? = some (.cells cs t fr))
    (hu : P.underlying ty = some d) (hd : (match d with | .struct _ | .array _ _ => true | _ => false) = true) (hi : (P.info? ty).map (·.size) = some cs.size) :
    (results fn tmps).run P w = .ok (.tuple #[.agg cs, v]) w := by
  have hp' : tmps[p]?.getD undef = .pointer (some ⟨g, 0, none⟩) := by simpa using hp
  have hq' : tmps[q]?.getD undef = v := by simpa using hq
  simp [results, h, hp', hq', asAddr, run_loadVar_row w g t ty cs fr d hg hu hd hi]
theorem c_sReadNote (l : List UInt8) (w : World) (hl : l.length ≤ 2000000) :
    Calls Tryd.prog 17 #[.string ⟨l.toArray⟩] w (RetN (rdN l) w) := by
  by_cases hl0 : l = []
  · subst hl0
    have HE := Lib.hid (rdN_no (l := []) (fun n hv h => noteT_ne hv h))
    have HP := Lib.hid (show ∀ W, Calls Tryd.prog 48 #[.string ByteArray.empty] W (RetP (rdP []) W) from fun W => c_sReadPitch [] W (by simp))
    generalize rdP [] = rp at *
    obtain ⟨⟨ps, pa, po⟩, pok⟩ := rp
    have hex := head_ex [] 0
    go_enter Tryd.func17, Tryd.ntmps17
    go_wp2_with fail
    go_loop [5] (fun s5 => s5 = .int .i64 0) (fun _ => 0)
    case atStart => rfl
    case round =>
      subst hrel
      go_wp2_with fail
      (go_at_call 48; (with_reducible refine (HP.out _).mono ?_); rintro e w5 ⟨rfl, hbq⟩; have hzq := hbq.size; (try simp only [size_alloc', size_setCell', size_drew', size_drewN'] at hzq); (try (refine keep_heap (b := w.heap.size) hbq ?_ ?_; (first | omega | (simp only [size_alloc', size_setCell', size_drew', size_drewN']; omega)); intro hkq; simp only [heap_alloc_get, heap_setCell_get, heap_drew_get, heap_drewN_get, size_alloc', size_setCell', size_drew', size_drewN', nat_simp1, nat_simp2, nat_simp3, nat_simp4, nat_simp5, if_true, if_false, *] at hkq; obtain ⟨_, _⟩ := blk_facts hkq)); (try (refine keep_heap (b := w.heap.size + 1) hbq ?_ ?_; (first | omega | (simp only [size_alloc', size_setCell', size_drew', size_drewN']; omega)); intro hkq; simp only [heap_alloc_get, heap_setCell_get, heap_drew_get, heap_drewN_get, size_alloc', size_setCell', size_drew', size_drewN', nat_simp1, nat_simp2, nat_simp3, nat_simp4, nat_simp5, if_true, if_false, *] at hkq; obtain ⟨_, _⟩ := blk_facts hkq)); skip)
      go_wp2_with fail
      go_loopw [6] (fun s6 wr => s6 = .int .i64 1 ∧ wr.heap[w.heap.size]? = some (.cells #[.bool false, .int .i64 0, .int .i64 0, .int .i64 0, .int .i64 0, .bool false] 29 (0, 0)) ∧ Below w.heap.size w wr) (fun _ _ => 0)
      case atStart => exact ⟨rfl, by (simp only [heap_alloc_get, heap_setCell_get, heap_drew_get, heap_drewN_get, size_alloc', size_setCell', size_drew', size_drewN', nat_simp1, nat_simp2, nat_simp3, nat_simp4, nat_simp5, if_true, if_false, Option.map_some, *]; first | done | rfl | simp), by (repeat' (first | (with_reducible exact Below.refl _ _) | (with_reducible refine Below.setCell ?_ ?_ _) | (with_reducible refine Below.alloc ?_ ?_ _) | (with_reducible refine Below.drew ?_) | (with_reducible refine below_drewN ?_ _) | (with_reducible refine Below.trans ?_ (Below.mono (by with_reducible assumption) ?_)) | omega | (simp only [size_alloc', size_setCell', size_drew', size_drewN'] at *; omega)))⟩
      case round =>
        obtain ⟨rfl, hb2, hbl⟩ := hrel
        obtain ⟨_, _⟩ := blk_facts hb2
        go_wp2_with fail
        have h5 : ((((((wr.setCell ⟨w.heap.size, 0, none⟩ (.bool false)).setCell ⟨w.heap.size, 1, none⟩ (.int .i64 0)).setCell ⟨w.heap.size, 2, none⟩ (.int .i64 0)).setCell ⟨w.heap.size, 3, none⟩ (.int .i64 0)).setCell ⟨w.heap.size, 4, none⟩ (.int .i64 0)).setCell ⟨w.heap.size, 5, none⟩ (.bool false)).heap[w.heap.size]? = some (.cells #[.bool false, .int .i64 0, .int .i64 0, .int .i64 0, .int .i64 0, .bool false] 29 (0, 0)) := by (simp only [heap_alloc_get, heap_setCell_get, heap_drew_get, heap_drewN_get, size_alloc', size_setCell', size_drew', size_drewN', nat_simp1, nat_simp2, nat_simp3, nat_simp4, nat_simp5, if_true, if_false, Option.map_some, *]; first | done | rfl | simp)
        exact bodyPost_ret (results_cell_slot rfl _ _ (w.heap.size) 29 #[.bool false, .int .i64 0, .int .i64 0, .int .i64 0, .int .i64 0, .bool false] (0, 0) _ (.bool false) rfl rfl h5 Tryd.underlying29 rfl (by kernel_rfl)) rfl ⟨by rw [HE.out], by (repeat' (first | (with_reducible exact Below.refl _ _) | (with_reducible refine Below.setCell ?_ ?_ _) | (with_reducible refine Below.alloc ?_ ?_ _) | (with_reducible refine Below.drew ?_) | (with_reducible refine below_drewN ?_ _) | (with_reducible refine Below.trans ?_ (Below.mono (by with_reducible assumption) ?_)) | omega | (simp only [size_alloc', size_setCell', size_drew', size_drewN'] at *; omega)))⟩
  · have hl1 : (l == ([] : List UInt8)) = false := beq_eq_false_iff_ne.2 hl0
    go_enter Tryd.func17, Tryd.ntmps17
    go_wp2_with fail
    go_loop [5] (fun s5 => ∃ k : Nat, k ≤ l.length ∧ s5 = .int .i64 k ∧ ∀ i, i < k → l.getD i 0 ≠ 47) (fun s5 => l.length - (intOf s5).toNat)
    case atStart => exact ⟨0, Nat.zero_le _, rfl, fun i h => absurd h (by omega)⟩
    case round =>
      obtain ⟨k, hkl, rfl, hne⟩ := hrel
      have HNE := Lib.hid hne
      have hex := head_ex l k
      clear hne
      obtain ⟨u, hu⟩ : ∃ u, l.drop (k + 1) = u := ⟨_, rfl⟩
      have HU := Lib.hid hu
      clear hu
      by_cases hlt : k < l.length
      · have hlt' : (k : Int) < (l.length : Int) := by omega
        have hgk : ∀ h, (ByteArray.mk l.toArray)[k]'h = l.getD k 0 := fun h => mk_get l k h
        by_cases hc : l.getD k 0 = 47
        · have HK2 := Lib.hid (show k = l.length ∨ l.getD k 0 = 47 from .inr hc)
          have hgk2 : ∀ h, (ByteArray.mk l.toArray)[k]'h = 47 := fun h => (hgk h).trans hc
          clear hgk hc
          cases hb : (l.take k == [114])
          · have HCD : Hid (∀ v z, candN (l.take k) v z = ⟨false, (rdP (l.take k)).1, v, z⟩) := Lib.hid (fun v z => by unfold candN; rw [hb]; rfl)
            have HP := Lib.hid (fun W => c_sReadPitch (l.take k) W (by rw [List.length_take]; omega))
            generalize rdP (l.take k) = rp at *
            obtain ⟨⟨ps, pa, po⟩, pok⟩ := rp
            dsimp only at HCD
            generalize htk0 : l.take k = tk at *
            have HTK0 := Lib.hid htk0
            clear htk0
            go_wp2_with fail
            (go_at_call 48; (with_reducible refine (HP.out _).mono ?_); rintro e w5 ⟨rfl, hbq⟩; have hzq := hbq.size; (try simp only [size_alloc', size_setCell', size_drew', size_drewN'] at hzq); (try (refine keep_heap (b := w.heap.size) hbq ?_ ?_; (first | omega | (simp only [size_alloc', size_setCell', size_drew', size_drewN']; omega)); intro hkq; simp only [heap_alloc_get, heap_setCell_get, heap_drew_get, heap_drewN_get, size_alloc', size_setCell', size_drew', size_drewN', nat_simp1, nat_simp2, nat_simp3, nat_simp4, nat_simp5, if_true, if_false, *] at hkq; obtain ⟨_, _⟩ := blk_facts hkq)); (try (refine keep_heap (b := w.heap.size + 1) hbq ?_ ?_; (first | omega | (simp only [size_alloc', size_setCell', size_drew', size_drewN']; omega)); intro hkq; simp only [heap_alloc_get, heap_setCell_get, heap_drew_get, heap_drewN_get, size_alloc', size_setCell', size_drew', size_drewN', nat_simp1, nat_simp2, nat_simp3, nat_simp4, nat_simp5, if_true, if_false, *] at hkq; obtain ⟨_, _⟩ := blk_facts hkq)); skip)
            go_wp2_with fail
            go_loopw [6] (fun s6 wr => ∃ p : Nat, k + 1 ≤ p ∧ p ≤ k + 6 ∧ (p = k + 1 ∨ p ≤ l.length) ∧ s6 = .int .i64 p ∧ wr.heap[w.heap.size + 1]? = some (.cells #[.bool false, .int .i64 ps, .int .i64 pa, .int .i64 po, .int .i64 ((tkAt u (p - (k + 1)) : Nat) : Int), .bool (tdAt u (p - (k + 1)))] 29 (0, 0)) ∧ wr.heap[w.heap.size]? = some (.cells #[.bool false, .int .i64 0, .int .i64 0, .int .i64 0, .int .i64 0, .bool false] 29 (0, 0)) ∧ Below w.heap.size w wr) (fun s6 _ => k + 6 - (intOf s6).toNat)
            case atStart =>
              refine ⟨k + 1, Nat.le_refl _, by omega, .inl rfl, by go_num, ?_, ?_, ?_⟩
              · rw [Nat.sub_self]
                (simp only [heap_alloc_get, heap_setCell_get, heap_drew_get, heap_drewN_get, size_alloc', size_setCell', size_drew', size_drewN', nat_simp1, nat_simp2, nat_simp3, nat_simp4, nat_simp5, if_true, if_false, Option.map_some, *]; first | done | rfl | simp)
              · (simp only [heap_alloc_get, heap_setCell_get, heap_drew_get, heap_drewN_get, size_alloc', size_setCell', size_drew', size_drewN', nat_simp1, nat_simp2, nat_simp3, nat_simp4, nat_simp5, if_true, if_false, Option.map_some, *]; first | done | rfl | simp)
              · (repeat' (first | (with_reducible exact Below.refl _ _) | (with_reducible refine Below.setCell ?_ ?_ _) | (with_reducible refine Below.alloc ?_ ?_ _) | (with_reducible refine Below.drew ?_) | (with_reducible refine below_drewN ?_ _) | (with_reducible refine Below.trans ?_ (Below.mono (by with_reducible assumption) ?_)) | omega | (simp only [size_alloc', size_setCell', size_drew', size_drewN'] at *; omega)))
            case round =>
              obtain ⟨p, hp1, hp6, hpl, rfl, hb1, hb2, hbl⟩ := hrel
              obtain ⟨_, _⟩ := blk_facts hb1
              obtain ⟨_, _⟩ := blk_facts hb2
              have hzz : w.heap.size + 1 < wr.heap.size := (Array.getElem?_eq_some_iff.1 hb1).1
              by_cases hlt : p < l.length
              · have hlt' : (p : Int) < (l.length : Int) := by omega
                by_cases h6 : p < k + 6
                · have h6' : (p : Int) < (k : Int) + 6 := by omega
                  have hgk : ∀ h, (ByteArray.mk l.toArray)[p]'h = l.getD p 0 := fun h => mk_get l p h
                  obtain ⟨htk, htd⟩ := tk_step l k p hp1 hlt
                  rw [HU.out] at htk htd
                  have HTB := Lib.hid (tkAt_bd u (p - (k + 1)) (by omega))
                  generalize tkAt u (p - (k + 1)) = t at *
                  generalize tdAt u (p - (k + 1)) = d at *
                  have htb := HTB.out
                  generalize l.getD p 0 = c at *
                  have hcb := c.toNat_lt
                  by_cases hc : 48 ≤ c.toNat ∧ c.toNat ≤ 57
                  · have hc1 : (48 : Int) ≤ (c.toNat : Int) := by omega
                    have hc2 : (c.toNat : Int) ≤ 57 := by omega
                    have hc3 : ¬ (c.toNat : Int) = 126 := by omega
                    have hc6 : ((c.toNat : Int) == 126) = false := beq_eq_false_iff_ne.2 hc3
                    have hc4 : (c == 126) = false := beq_eq_false_iff_ne.2 (fun e => by subst e; exact absurd hc (by decide))
                    have HTK := Lib.hid (show ((tkAt u (p + 1 - (k + 1)) : Nat) : Int) = 10 * (t : Int) + ((c.toNat : Int) - 48) by rw [htk]; unfold tkF; rw [if_pos hc]; omega)
                    have HTD := Lib.hid (show tdAt u (p + 1 - (k + 1)) = d by rw [htd, hc4, Bool.or_false])
                    clear htk htd hc4
                    go_wp2_with fail
                    (refine wp_region_more_tail 10 (by kernel_rfl) (by kernel_rfl) ?_; simp only [List.take_succ_cons, List.take_zero, List.drop_succ_cons, List.drop_zero]; (repeat (go_big_quiet_step (fail))); refine wpQuiet_nil ?_; intro wq hwq; have hbq := below_of_more hwq; clear hwq; have hzq := hbq.size; (try simp only [size_alloc', size_setCell', size_drew', size_drewN'] at hzq); (try (refine keep_heap (b := w.heap.size) hbq ?_ ?_; (first | omega | (simp only [size_alloc', size_setCell', size_drew', size_drewN']; omega)); intro hkq; simp only [heap_alloc_get, heap_setCell_get, heap_drew_get, heap_drewN_get, size_alloc', size_setCell', size_drew', size_drewN', nat_simp1, nat_simp2, nat_simp3, nat_simp4, nat_simp5, if_true, if_false, *] at hkq; obtain ⟨_, _⟩ := blk_facts hkq)); (try (refine keep_heap (b := w.heap.size + 1) hbq ?_ ?_; (first | omega | (simp only [size_alloc', size_setCell', size_drew', size_drewN']; omega)); intro hkq; simp only [heap_alloc_get, heap_setCell_get, heap_drew_get, heap_drewN_get, size_alloc', size_setCell', size_drew', size_drewN', nat_simp1, nat_simp2, nat_simp3, nat_simp4, nat_simp5, if_true, if_false, *] at hkq; obtain ⟨_, _⟩ := blk_facts hkq)); skip)
                    cases d
                    · go_wp2_with fail
                      have h3 : ((wq.setCell ⟨w.heap.size + 1, 4, none⟩ (.int .i64 (10 * (t : Int) + ((c.toNat : Int) - 48)))).setCell ⟨w.heap.size + 1, 5, none⟩ (.bool false)).heap[w.heap.size + 1]? = some (.cells #[.bool false, .int .i64 ps, .int .i64 pa, .int .i64 po, .int .i64 (10 * (t : Int) + ((c.toNat : Int) - 48)), .bool false] 29 (0, 0)) := by (simp only [heap_alloc_get, heap_setCell_get, heap_drew_get, heap_drewN_get, size_alloc', size_setCell', size_drew', size_drewN', nat_simp1, nat_simp2, nat_simp3, nat_simp4, nat_simp5, if_true, if_false, Option.map_some, *]; first | done | rfl | simp)
                      have h4 : ((wq.setCell ⟨w.heap.size + 1, 4, none⟩ (.int .i64 (10 * (t : Int) + ((c.toNat : Int) - 48)))).setCell ⟨w.heap.size + 1, 5, none⟩ (.bool false)).heap[w.heap.size]? = some (.cells #[.bool false, .int .i64 0, .int .i64 0, .int .i64 0, .int .i64 0, .bool false] 29 (0, 0)) := by (simp only [heap_alloc_get, heap_setCell_get, heap_drew_get, heap_drewN_get, size_alloc', size_setCell', size_drew', size_drewN', nat_simp1, nat_simp2, nat_simp3, nat_simp4, nat_simp5, if_true, if_false, Option.map_some, *]; first | done | rfl | simp)
                      go_wp2_with fail
                      go_roundw
                      case rel => exact ⟨p + 1, by omega, by omega, .inr (by omega), by go_num, by rw [HTK.out, HTD.out]; exact h3, h4, by (repeat' (first | (with_reducible exact Below.refl _ _) | (with_reducible refine Below.setCell ?_ ?_ _) | (with_reducible refine Below.alloc ?_ ?_ _) | (with_reducible refine Below.drew ?_) | (with_reducible refine below_drewN ?_ _) | (with_reducible refine Below.trans ?_ (Below.mono (by with_reducible assumption) ?_)) | omega | (simp only [size_alloc', size_setCell', size_drew', size_drewN'] at *; omega)))⟩
                      case measure => simp [intOf]; omega
                    · go_wp2_with fail
                      have h3 : ((wq.setCell ⟨w.heap.size + 1, 4, none⟩ (.int .i64 (10 * (t : Int) + ((c.toNat : Int) - 48)))).setCell ⟨w.heap.size + 1, 5, none⟩ (.bool true)).heap[w.heap.size + 1]? = some (.cells #[.bool false, .int .i64 ps, .int .i64 pa, .int .i64 po, .int .i64 (10 * (t : Int) + ((c.toNat : Int) - 48)), .bool true] 29 (0, 0)) := by (simp only [heap_alloc_get, heap_setCell_get, heap_drew_get, heap_drewN_get, size_alloc', size_setCell', size_drew', size_drewN', nat_simp1, nat_simp2, nat_simp3, nat_simp4, nat_simp5, if_true, if_false, Option.map_some, *]; first | done | rfl | simp)
                      have h4 : ((wq.setCell ⟨w.heap.size + 1, 4, none⟩ (.int .i64 (10 * (t : Int) + ((c.toNat : Int) - 48)))).setCell ⟨w.heap.size + 1, 5, none⟩ (.bool true)).heap[w.heap.size]? = some (.cells #[.bool false, .int .i64 0, .int .i64 0, .int .i64 0, .int .i64 0, .bool false] 29 (0, 0)) := by (simp only [heap_alloc_get, heap_setCell_get, heap_drew_get, heap_drewN_get, size_alloc', size_setCell', size_drew', size_drewN', nat_simp1, nat_simp2, nat_simp3, nat_simp4, nat_simp5, if_true, if_false, Option.map_some, *]; first | done | rfl | simp)
                      go_wp2_with fail
                      go_roundw
                      case rel => exact ⟨p + 1, by omega, by omega, .inr (by omega), by go_num, by rw [HTK.out, HTD.out]; exact h3, h4, by (repeat' (first | (with_reducible exact Below.refl _ _) | (with_reducible refine Below.setCell ?_ ?_ _) | (with_reducible refine Below.alloc ?_ ?_ _) | (with_reducible refine Below.drew ?_) | (with_reducible refine below_drewN ?_ _) | (with_reducible refine Below.trans ?_ (Below.mono (by with_reducible assumption) ?_)) | omega | (simp only [size_alloc', size_setCell', size_drew', size_drewN'] at *; omega)))⟩
                      case measure => simp [intOf]; omega
                  · have HTK := Lib.hid (show ((tkAt u (p + 1 - (k + 1)) : Nat) : Int) = (t : Int) by rw [htk]; unfold tkF; rw [if_neg hc])
                    by_cases hc0 : 48 ≤ c.toNat
                    · have hc1 : (48 : Int) ≤ (c.toNat : Int) := by omega
                      have hc2 : ¬ (c.toNat : Int) ≤ 57 := by omega
                      by_cases hc5 : c = 126
                      · subst hc5
                        have HTD := Lib.hid (show tdAt u (p + 1 - (k + 1)) = true by rw [htd]; simp)
                        clear htk htd
                        cases d
                        · go_wp2_with fail
                          have h3 : (wr.setCell ⟨w.heap.size + 1, 5, none⟩ (.bool true)).heap[w.heap.size + 1]? = some (.cells #[.bool false, .int .i64 ps, .int .i64 pa, .int .i64 po, .int .i64 (t : Int), .bool true] 29 (0, 0)) := by (simp only [heap_alloc_get, heap_setCell_get, heap_drew_get, heap_drewN_get, size_alloc', size_setCell', size_drew', size_drewN', nat_simp1, nat_simp2, nat_simp3, nat_simp4, nat_simp5, if_true, if_false, Option.map_some, *]; first | done | rfl | simp)
                          have h4 : (wr.setCell ⟨w.heap.size + 1, 5, none⟩ (.bool true)).heap[w.heap.size]? = some (.cells #[.bool false, .int .i64 0, .int .i64 0, .int .i64 0, .int .i64 0, .bool false] 29 (0, 0)) := by (simp only [heap_alloc_get, heap_setCell_get, heap_drew_get, heap_drewN_get, size_alloc', size_setCell', size_drew', size_drewN', nat_simp1, nat_simp2, nat_simp3, nat_simp4, nat_simp5, if_true, if_false, Option.map_some, *]; first | done | rfl | simp)
                          go_wp2_with fail
                          go_roundw
                          case rel => exact ⟨p + 1, by omega, by omega, .inr (by omega), by go_num, by rw [HTK.out, HTD.out]; exact h3, h4, by (repeat' (first | (with_reducible exact Below.refl _ _) | (with_reducible refine Below.setCell ?_ ?_ _) | (with_reducible refine Below.alloc ?_ ?_ _) | (with_reducible refine Below.drew ?_) | (with_reducible refine below_drewN ?_ _) | (with_reducible refine Below.trans ?_ (Below.mono (by with_reducible assumption) ?_)) | omega | (simp only [size_alloc', size_setCell', size_drew', size_drewN'] at *; omega)))⟩
                          case measure => simp [intOf]; omega
                        · go_wp2_with fail
                          have h3 : (wr.setCell ⟨w.heap.size + 1, 5, none⟩ (.bool true)).heap[w.heap.size + 1]? = some (.cells #[.bool false, .int .i64 ps, .int .i64 pa, .int .i64 po, .int .i64 (t : Int), .bool true] 29 (0, 0)) := by (simp only [heap_alloc_get, heap_setCell_get, heap_drew_get, heap_drewN_get, size_alloc', size_setCell', size_drew', size_drewN', nat_simp1, nat_simp2, nat_simp3, nat_simp4, nat_simp5, if_true, if_false, Option.map_some, *]; first | done | rfl | simp)
                          have h4 : (wr.setCell ⟨w.heap.size + 1, 5, none⟩ (.bool true)).heap[w.heap.size]? = some (.cells #[.bool false, .int .i64 0, .int .i64 0, .int .i64 0, .int .i64 0, .bool false] 29 (0, 0)) := by (simp only [heap_alloc_get, heap_setCell_get, heap_drew_get, heap_drewN_get, size_alloc', size_setCell', size_drew', size_drewN', nat_simp1, nat_simp2, nat_simp3, nat_simp4, nat_simp5, if_true, if_false, Option.map_some, *]; first | done | rfl | simp)
                          go_wp2_with fail
                          go_roundw
                          case rel => exact ⟨p + 1, by omega, by omega, .inr (by omega), by go_num, by rw [HTK.out, HTD.out]; exact h3, h4, by (repeat' (first | (with_reducible exact Below.refl _ _) | (with_reducible refine Below.setCell ?_ ?_ _) | (with_reducible refine Below.alloc ?_ ?_ _) | (with_reducible refine Below.drew ?_) | (with_reducible refine below_drewN ?_ _) | (with_reducible refine Below.trans ?_ (Below.mono (by with_reducible assumption) ?_)) | omega | (simp only [size_alloc', size_setCell', size_drew', size_drewN'] at *; omega)))⟩
                          case measure => simp [intOf]; omega
                      · have hc3 : ¬ (c.toNat : Int) = 126 := u8_ne hc5
                        have hc6 : ((c.toNat : Int) == 126) = false := beq_eq_false_iff_ne.2 hc3
                        have HTD := Lib.hid (show tdAt u (p + 1 - (k + 1)) = d by rw [htd, beq_eq_false_iff_ne.2 hc5, Bool.or_false])
                        clear htk htd
                        cases d
                        · go_wp2_with fail
                          have h3 : (wr.setCell ⟨w.heap.size + 1, 5, none⟩ (.bool false)).heap[w.heap.size + 1]? = some (.cells #[.bool false, .int .i64 ps, .int .i64 pa, .int .i64 po, .int .i64 (t : Int), .bool false] 29 (0, 0)) := by (simp only [heap_alloc_get, heap_setCell_get, heap_drew_get, heap_drewN_get, size_alloc', size_setCell', size_drew', size_drewN', nat_simp1, nat_simp2, nat_simp3, nat_simp4, nat_simp5, if_true, if_false, Option.map_some, *]; first | done | rfl | simp)
                          have h4 : (wr.setCell ⟨w.heap.size + 1, 5, none⟩ (.bool false)).heap[w.heap.size]? = some (.cells #[.bool false, .int .i64 0, .int .i64 0, .int .i64 0, .int .i64 0, .bool false] 29 (0, 0)) := by (simp only [heap_alloc_get, heap_setCell_get, heap_drew_get, heap_drewN_get, size_alloc', size_setCell', size_drew', size_drewN', nat_simp1, nat_simp2, nat_simp3, nat_simp4, nat_simp5, if_true, if_false, Option.map_some, *]; first | done | rfl | simp)
                          go_wp2_with fail
                          go_roundw
                          case rel => exact ⟨p + 1, by omega, by omega, .inr (by omega), by go_num, by rw [HTK.out, HTD.out]; exact h3, h4, by (repeat' (first | (with_reducible exact Below.refl _ _) | (with_reducible refine Below.setCell ?_ ?_ _) | (with_reducible refine Below.alloc ?_ ?_ _) | (with_reducible refine Below.drew ?_) | (with_reducible refine below_drewN ?_ _) | (with_reducible refine Below.trans ?_ (Below.mono (by with_reducible assumption) ?_)) | omega | (simp only [size_alloc', size_setCell', size_drew', size_drewN'] at *; omega)))⟩
                          case measure => simp [intOf]; omega
                        · go_wp2_with fail
                          have h3 : (wr.setCell ⟨w.heap.size + 1, 5, none⟩ (.bool true)).heap[w.heap.size + 1]? = some (.cells #[.bool false, .int .i64 ps, .int .i64 pa, .int .i64 po, .int .i64 (t : Int), .bool true] 29 (0, 0)) := by (simp only [heap_alloc_get, heap_setCell_get, heap_drew_get, heap_drewN_get, size_alloc', size_setCell', size_drew', size_drewN', nat_simp1, nat_simp2, nat_simp3, nat_simp4, nat_simp5, if_true, if_false, Option.map_some, *]; first | done | rfl | simp)
                          have h4 : (wr.setCell ⟨w.heap.size + 1, 5, none⟩ (.bool true)).heap[w.heap.size]? = some (.cells #[.bool false, .int .i64 0, .int .i64 0, .int .i64 0, .int .i64 0, .bool false] 29 (0, 0)) := by (simp only [heap_alloc_get, heap_setCell_get, heap_drew_get, heap_drewN_get, size_alloc', size_setCell', size_drew', size_drewN', nat_simp1, nat_simp2, nat_simp3, nat_simp4, nat_simp5, if_true, if_false, Option.map_some, *]; first | done | rfl | simp)
                          go_wp2_with fail
                          go_roundw
                          case rel => exact ⟨p + 1, by omega, by omega, .inr (by omega), by go_num, by rw [HTK.out, HTD.out]; exact h3, h4, by (repeat' (first | (with_reducible exact Below.refl _ _) | (with_reducible refine Below.setCell ?_ ?_ _) | (with_reducible refine Below.alloc ?_ ?_ _) | (with_reducible refine Below.drew ?_) | (with_reducible refine below_drewN ?_ _) | (with_reducible refine Below.trans ?_ (Below.mono (by with_reducible assumption) ?_)) | omega | (simp only [size_alloc', size_setCell', size_drew', size_drewN'] at *; omega)))⟩
                          case measure => simp [intOf]; omega
                    · have hc1 : ¬ (48 : Int) ≤ (c.toNat : Int) := by omega
                      have hc5 : ¬ c = 126 := fun e => by subst e; exact hc0 (by decide)
                      have hc3 : ¬ (c.toNat : Int) = 126 := u8_ne hc5
                      have hc6 : ((c.toNat : Int) == 126) = false := beq_eq_false_iff_ne.2 hc3
                      have HTD := Lib.hid (show tdAt u (p + 1 - (k + 1)) = d by rw [htd, beq_eq_false_iff_ne.2 hc5, Bool.or_false])
                      clear htk htd
                      cases d
                      · go_wp2_with fail
                        have h3 : (wr.setCell ⟨w.heap.size + 1, 5, none⟩ (.bool false)).heap[w.heap.size + 1]? = some (.cells #[.bool false, .int .i64 ps, .int .i64 pa, .int .i64 po, .int .i64 (t : Int), .bool false] 29 (0, 0)) := by (simp only [heap_alloc_get, heap_setCell_get, heap_drew_get, heap_drewN_get, size_alloc', size_setCell', size_drew', size_drewN', nat_simp1, nat_simp2, nat_simp3, nat_simp4, nat_simp5, if_true, if_false, Option.map_some, *]; first | done | rfl | simp)
                        have h4 : (wr.setCell ⟨w.heap.size + 1, 5, none⟩ (.bool false)).heap[w.heap.size]? = some (.cells #[.bool false, .int .i64 0, .int .i64 0, .int .i64 0, .int .i64 0, .bool false] 29 (0, 0)) := by (simp only [heap_alloc_get, heap_setCell_get, heap_drew_get, heap_drewN_get, size_alloc', size_setCell', size_drew', size_drewN', nat_simp1, nat_simp2, nat_simp3, nat_simp4, nat_simp5, if_true, if_false, Option.map_some, *]; first | done | rfl | simp)
                        go_wp2_with fail
                        go_roundw
                        case rel => exact ⟨p + 1, by omega, by omega, .inr (by omega), by go_num, by rw [HTK.out, HTD.out]; exact h3, h4, by (repeat' (first | (with_reducible exact Below.refl _ _) | (with_reducible refine Below.setCell ?_ ?_ _) | (with_reducible refine Below.alloc ?_ ?_ _) | (with_reducible refine Below.drew ?_) | (with_reducible refine below_drewN ?_ _) | (with_reducible refine Below.trans ?_ (Below.mono (by with_reducible assumption) ?_)) | omega | (simp only [size_alloc', size_setCell', size_drew', size_drewN'] at *; omega)))⟩
                        case measure => simp [intOf]; omega
                      · go_wp2_with fail
                        have h3 : (wr.setCell ⟨w.heap.size + 1, 5, none⟩ (.bool true)).heap[w.heap.size + 1]? = some (.cells #[.bool false, .int .i64 ps, .int .i64 pa, .int .i64 po, .int .i64 (t : Int), .bool true] 29 (0, 0)) := by (simp only [heap_alloc_get, heap_setCell_get, heap_drew_get, heap_drewN_get, size_alloc', size_setCell', size_drew', size_drewN', nat_simp1, nat_simp2, nat_simp3, nat_simp4, nat_simp5, if_true, if_false, Option.map_some, *]; first | done | rfl | simp)
                        have h4 : (wr.setCell ⟨w.heap.size + 1, 5, none⟩ (.bool true)).heap[w.heap.size]? = some (.cells #[.bool false, .int .i64 0, .int .i64 0, .int .i64 0, .int .i64 0, .bool false] 29 (0, 0)) := by (simp only [heap_alloc_get, heap_setCell_get, heap_drew_get, heap_drewN_get, size_alloc', size_setCell', size_drew', size_drewN', nat_simp1, nat_simp2, nat_simp3, nat_simp4, nat_simp5, if_true, if_false, Option.map_some, *]; first | done | rfl | simp)
                        go_wp2_with fail
                        go_roundw
                        case rel => exact ⟨p + 1, by omega, by omega, .inr (by omega), by go_num, by rw [HTK.out, HTD.out]; exact h3, h4, by (repeat' (first | (with_reducible exact Below.refl _ _) | (with_reducible refine Below.setCell ?_ ?_ _) | (with_reducible refine Below.alloc ?_ ?_ _) | (with_reducible refine Below.drew ?_) | (with_reducible refine below_drewN ?_ _) | (with_reducible refine Below.trans ?_ (Below.mono (by with_reducible assumption) ?_)) | omega | (simp only [size_alloc', size_setCell', size_drew', size_drewN'] at *; omega)))⟩
                        case measure => simp [intOf]; omega
                · have h6' : ¬ (p : Int) < (k : Int) + 6 := by omega
                  have HFF := Lib.hid (rdN_spec hkl HNE.out HK2.out (j := p - (k + 1)) (by rw [List.length_drop]; omega))
                  rw [HU.out, HTK0.out] at HFF
                  have HTB := Lib.hid (tkAt_bd u (p - (k + 1)) (by omega))
                  generalize tkAt u (p - (k + 1)) = t at *
                  generalize tdAt u (p - (k + 1)) = d at *
                  have htb := HTB.out
                  rw [HCD.out (t : Int) d] at HFF
                  by_cases hE : noteT ⟨false, ⟨ps, pa, po⟩, (t : Int), d⟩ = l
                  · have HE := Lib.hid (rdN_yes hE hl0)
                    have HQ := Lib.hid (fun W => c_sNoteText ⟨false, ⟨ps, pa, po⟩, (t : Int), d⟩ W)
                    rw [hE] at HQ
                    go_wp2_with fail
                    (go_at_call 10; (with_reducible refine (HQ.out _).mono ?_); rintro e w5 ⟨rfl, hbq⟩; have hzq := hbq.size; (try simp only [size_alloc', size_setCell', size_drew', size_drewN'] at hzq); (try (refine keep_heap (b := w.heap.size) hbq ?_ ?_; (first | omega | (simp only [size_alloc', size_setCell', size_drew', size_drewN']; omega)); intro hkq; simp only [heap_alloc_get, heap_setCell_get, heap_drew_get, heap_drewN_get, size_alloc', size_setCell', size_drew', size_drewN', nat_simp1, nat_simp2, nat_simp3, nat_simp4, nat_simp5, if_true, if_false, *] at hkq; obtain ⟨_, _⟩ := blk_facts hkq)); (try (refine keep_heap (b := w.heap.size + 1) hbq ?_ ?_; (first | omega | (simp only [size_alloc', size_setCell', size_drew', size_drewN']; omega)); intro hkq; simp only [heap_alloc_get, heap_setCell_get, heap_drew_get, heap_drewN_get, size_alloc', size_setCell', size_drew', size_drewN', nat_simp1, nat_simp2, nat_simp3, nat_simp4, nat_simp5, if_true, if_false, *] at hkq; obtain ⟨_, _⟩ := blk_facts hkq)); skip)
                    go_wp2_with fail
                    have h5 : ((((((w5.setCell ⟨w.heap.size, 0, none⟩ (.bool false)).setCell ⟨w.heap.size, 1, none⟩ (.int .i64 ps)).setCell ⟨w.heap.size, 2, none⟩ (.int .i64 pa)).setCell ⟨w.heap.size, 3, none⟩ (.int .i64 po)).setCell ⟨w.heap.size, 4, none⟩ (.int .i64 t)).setCell ⟨w.heap.size, 5, none⟩ (.bool d)).heap[w.heap.size]? = some (.cells #[.bool false, .int .i64 ps, .int .i64 pa, .int .i64 po, .int .i64 t, .bool d] 29 (0, 0)) := by (simp only [heap_alloc_get, heap_setCell_get, heap_drew_get, heap_drewN_get, size_alloc', size_setCell', size_drew', size_drewN', nat_simp1, nat_simp2, nat_simp3, nat_simp4, nat_simp5, if_true, if_false, Option.map_some, *]; first | done | rfl | simp)
                    exact bodyPost_ret (results_cell_slot rfl _ _ (w.heap.size) 29 #[.bool false, .int .i64 ps, .int .i64 pa, .int .i64 po, .int .i64 t, .bool d] (0, 0) _ (.bool true) rfl rfl h5 Tryd.underlying29 rfl (by kernel_rfl)) rfl ⟨by rw [HE.out], by (repeat' (first | (with_reducible exact Below.refl _ _) | (with_reducible refine Below.setCell ?_ ?_ _) | (with_reducible refine Below.alloc ?_ ?_ _) | (with_reducible refine Below.drew ?_) | (with_reducible refine below_drewN ?_ _) | (with_reducible refine Below.trans ?_ (Below.mono (by with_reducible assumption) ?_)) | omega | (simp only [size_alloc', size_setCell', size_drew', size_drewN'] at *; omega)))⟩
                  · have HE := Lib.hid (rdN_no (l := l) (fun n hv h => hE (by rw [HFF.out n hv h]; exact h)))
                    have HQ := Lib.hid (fun W => c_sNoteText ⟨false, ⟨ps, pa, po⟩, (t : Int), d⟩ W)
                    generalize noteT ⟨false, ⟨ps, pa, po⟩, (t : Int), d⟩ = q at *
                    have hne : (q == l) = false := beq_eq_false_iff_ne.2 hE
                    go_wp2_with fail
                    (go_at_call 10; (with_reducible refine (HQ.out _).mono ?_); rintro e w5 ⟨rfl, hbq⟩; have hzq := hbq.size; (try simp only [size_alloc', size_setCell', size_drew', size_drewN'] at hzq); (try (refine keep_heap (b := w.heap.size) hbq ?_ ?_; (first | omega | (simp only [size_alloc', size_setCell', size_drew', size_drewN']; omega)); intro hkq; simp only [heap_alloc_get, heap_setCell_get, heap_drew_get, heap_drewN_get, size_alloc', size_setCell', size_drew', size_drewN', nat_simp1, nat_simp2, nat_simp3, nat_simp4, nat_simp5, if_true, if_false, *] at hkq; obtain ⟨_, _⟩ := blk_facts hkq)); (try (refine keep_heap (b := w.heap.size + 1) hbq ?_ ?_; (first | omega | (simp only [size_alloc', size_setCell', size_drew', size_drewN']; omega)); intro hkq; simp only [heap_alloc_get, heap_setCell_get, heap_drew_get, heap_drewN_get, size_alloc', size_setCell', size_drew', size_drewN', nat_simp1, nat_simp2, nat_simp3, nat_simp4, nat_simp5, if_true, if_false, *] at hkq; obtain ⟨_, _⟩ := blk_facts hkq)); skip)
                    go_wp2_with fail
                    have h5 : ((((((w5.setCell ⟨w.heap.size, 0, none⟩ (.bool false)).setCell ⟨w.heap.size, 1, none⟩ (.int .i64 0)).setCell ⟨w.heap.size, 2, none⟩ (.int .i64 0)).setCell ⟨w.heap.size, 3, none⟩ (.int .i64 0)).setCell ⟨w.heap.size, 4, none⟩ (.int .i64 0)).setCell ⟨w.heap.size, 5, none⟩ (.bool false)).heap[w.heap.size]? = some (.cells #[.bool false, .int .i64 0, .int .i64 0, .int .i64 0, .int .i64 0, .bool false] 29 (0, 0)) := by (simp only [heap_alloc_get, heap_setCell_get, heap_drew_get, heap_drewN_get, size_alloc', size_setCell', size_drew', size_drewN', nat_simp1, nat_simp2, nat_simp3, nat_simp4, nat_simp5, if_true, if_false, Option.map_some, *]; first | done | rfl | simp)
                    exact bodyPost_ret (results_cell_slot rfl _ _ (w.heap.size) 29 #[.bool false, .int .i64 0, .int .i64 0, .int .i64 0, .int .i64 0, .bool false] (0, 0) _ (.bool false) rfl rfl h5 Tryd.underlying29 rfl (by kernel_rfl)) rfl ⟨by rw [HE.out], by (repeat' (first | (with_reducible exact Below.refl _ _) | (with_reducible refine Below.setCell ?_ ?_ _) | (with_reducible refine Below.alloc ?_ ?_ _) | (with_reducible refine Below.drew ?_) | (with_reducible refine below_drewN ?_ _) | (with_reducible refine Below.trans ?_ (Below.mono (by with_reducible assumption) ?_)) | omega | (simp only [size_alloc', size_setCell', size_drew', size_drewN'] at *; omega)))⟩
              · have hlt' : ¬ (p : Int) < (l.length : Int) := by omega
                have HFF := Lib.hid (rdN_spec hkl HNE.out HK2.out (j := p - (k + 1)) (by rw [List.length_drop]; omega))
                rw [HU.out, HTK0.out] at HFF
                have HTB := Lib.hid (tkAt_bd u (p - (k + 1)) (by omega))
                generalize tkAt u (p - (k + 1)) = t at *
                generalize tdAt u (p - (k + 1)) = d at *
                have htb := HTB.out
                rw [HCD.out (t : Int) d] at HFF
                by_cases hE : noteT ⟨false, ⟨ps, pa, po⟩, (t : Int), d⟩ = l
                · have HE := Lib.hid (rdN_yes hE hl0)
                  have HQ := Lib.hid (fun W => c_sNoteText ⟨false, ⟨ps, pa, po⟩, (t : Int), d⟩ W)
                  rw [hE] at HQ
                  go_wp2_with fail
                  (go_at_call 10; (with_reducible refine (HQ.out _).mono ?_); rintro e w5 ⟨rfl, hbq⟩; have hzq := hbq.size; (try simp only [size_alloc', size_setCell', size_drew', size_drewN'] at hzq); (try (refine keep_heap (b := w.heap.size) hbq ?_ ?_; (first | omega | (simp only [size_alloc', size_setCell', size_drew', size_drewN']; omega)); intro hkq; simp only [heap_alloc_get, heap_setCell_get, heap_drew_get, heap_drewN_get, size_alloc', size_setCell', size_drew', size_drewN', nat_simp1, nat_simp2, nat_simp3, nat_simp4, nat_simp5, if_true, if_false, *] at hkq; obtain ⟨_, _⟩ := blk_facts hkq)); (try (refine keep_heap (b := w.heap.size + 1) hbq ?_ ?_; (first | omega | (simp only [size_alloc', size_setCell', size_drew', size_drewN']; omega)); intro hkq; simp only [heap_alloc_get, heap_setCell_get, heap_drew_get, heap_drewN_get, size_alloc', size_setCell', size_drew', size_drewN', nat_simp1, nat_simp2, nat_simp3, nat_simp4, nat_simp5, if_true, if_false, *] at hkq; obtain ⟨_, _⟩ := blk_facts hkq)); skip)
                  go_wp2_with fail
                  have h5 : ((((((w5.setCell ⟨w.heap.size, 0, none⟩ (.bool false)).setCell ⟨w.heap.size, 1, none⟩ (.int .i64 ps)).setCell ⟨w.heap.size, 2, none⟩ (.int .i64 pa)).setCell ⟨w.heap.size, 3, none⟩ (.int .i64 po)).setCell ⟨w.heap.size, 4, none⟩ (.int .i64 t)).setCell ⟨w.heap.size, 5, none⟩ (.bool d)).heap[w.heap.size]? = some (.cells #[.bool false, .int .i64 ps, .int .i64 pa, .int .i64 po, .int .i64 t, .bool d] 29 (0, 0)) := by (simp only [heap_alloc_get, heap_setCell_get, heap_drew_get, heap_drewN_get, size_alloc', size_setCell', size_drew', size_drewN', nat_simp1, nat_simp2, nat_simp3, nat_simp4, nat_simp5, if_true, if_false, Option.map_some, *]; first | done | rfl | simp)
                  exact bodyPost_ret (results_cell_slot rfl _ _ (w.heap.size) 29 #[.bool false, .int .i64 ps, .int .i64 pa, .int .i64 po, .int .i64 t, .bool d] (0, 0) _ (.bool true) rfl rfl h5 Tryd.underlying29 rfl (by kernel_rfl)) rfl ⟨by rw [HE.out], by (repeat' (first | (with_reducible exact Below.refl _ _) | (with_reducible refine Below.setCell ?_ ?_ _) | (with_reducible refine Below.alloc ?_ ?_ _) | (with_reducible refine Below.drew ?_) | (with_reducible refine below_drewN ?_ _) | (with_reducible refine Below.trans ?_ (Below.mono (by with_reducible assumption) ?_)) | omega | (simp only [size_alloc', size_setCell', size_drew', size_drewN'] at *; omega)))⟩
                · have HE := Lib.hid (rdN_no (l := l) (fun n hv h => hE (by rw [HFF.out n hv h]; exact h)))
                  have HQ := Lib.hid (fun W => c_sNoteText ⟨false, ⟨ps, pa, po⟩, (t : Int), d⟩ W)
                  generalize noteT ⟨false, ⟨ps, pa, po⟩, (t : Int), d⟩ = q at *
                  have hne : (q == l) = false := beq_eq_false_iff_ne.2 hE
                  go_wp2_with fail
                  (go_at_call 10; (with_reducible refine (HQ.out _).mono ?_); rintro e w5 ⟨rfl, hbq⟩; have hzq := hbq.size; (try simp only [size_alloc', size_setCell', size_drew', size_drewN'] at hzq); (try (refine keep_heap (b := w.heap.size) hbq ?_ ?_; (first | omega | (simp only [size_alloc', size_setCell', size_drew', size_drewN']; omega)); intro hkq; simp only [heap_alloc_get, heap_setCell_get, heap_drew_get, heap_drewN_get, size_alloc', size_setCell', size_drew', size_drewN', nat_simp1, nat_simp2, nat_simp3, nat_simp4, nat_simp5, if_true, if_false, *] at hkq; obtain ⟨_, _⟩ := blk_facts hkq)); (try (refine keep_heap (b := w.heap.size + 1) hbq ?_ ?_; (first | omega | (simp only [size_alloc', size_setCell', size_drew', size_drewN']; omega)); intro hkq; simp only [heap_alloc_get, heap_setCell_get, heap_drew_get, heap_drewN_get, size_alloc', size_setCell', size_drew', size_drewN', nat_simp1, nat_simp2, nat_simp3, nat_simp4, nat_simp5, if_true, if_false, *] at hkq; obtain ⟨_, _⟩ := blk_facts hkq)); skip)
                  go_wp2_with fail
                  have h5 : ((((((w5.setCell ⟨w.heap.size, 0, none⟩ (.bool false)).setCell ⟨w.heap.size, 1, none⟩ (.int .i64 0)).setCell ⟨w.heap.size, 2, none⟩ (.int .i64 0)).setCell ⟨w.heap.size, 3, none⟩ (.int .i64 0)).setCell ⟨w.heap.size, 4, none⟩ (.int .i64 0)).setCell ⟨w.heap.size, 5, none⟩ (.bool false)).heap[w.heap.size]? = some (.cells #[.bool false, .int .i64 0, .int .i64 0, .int .i64 0, .int .i64 0, .bool false] 29 (0, 0)) := by (simp only [heap_alloc_get, heap_setCell_get, heap_drew_get, heap_drewN_get, size_alloc', size_setCell', size_drew', size_drewN', nat_simp1, nat_simp2, nat_simp3, nat_simp4, nat_simp5, if_true, if_false, Option.map_some, *]; first | done | rfl | simp)
                  exact bodyPost_ret (results_cell_slot rfl _ _ (w.heap.size) 29 #[.bool false, .int .i64 0, .int .i64 0, .int .i64 0, .int .i64 0, .bool false] (0, 0) _ (.bool false) rfl rfl h5 Tryd.underlying29 rfl (by kernel_rfl)) rfl ⟨by rw [HE.out], by (repeat' (first | (with_reducible exact Below.refl _ _) | (with_reducible refine Below.setCell ?_ ?_ _) | (with_reducible refine Below.alloc ?_ ?_ _) | (with_reducible refine Below.drew ?_) | (with_reducible refine below_drewN ?_ _) | (with_reducible refine Below.trans ?_ (Below.mono (by with_reducible assumption) ?_)) | omega | (simp only [size_alloc', size_setCell', size_drew', size_drewN'] at *; omega)))⟩
          · have HCD : Hid (∀ v z, candN (l.take k) v z = ⟨true, ⟨0, 0, 0⟩, v, z⟩) := Lib.hid (fun v z => by unfold candN; rw [hb]; rfl)
            generalize htk0 : l.take k = tk at *
            have HTK0 := Lib.hid htk0
            clear htk0
            go_wp2_with fail
            go_loopw [6] (fun s6 wr => ∃ p : Nat, k + 1 ≤ p ∧ p ≤ k + 6 ∧ (p = k + 1 ∨ p ≤ l.length) ∧ s6 = .int .i64 p ∧ wr.heap[w.heap.size + 1]? = some (.cells #[.bool true, .int .i64 0, .int .i64 0, .int .i64 0, .int .i64 ((tkAt u (p - (k + 1)) : Nat) : Int), .bool (tdAt u (p - (k + 1)))] 29 (0, 0)) ∧ wr.heap[w.heap.size]? = some (.cells #[.bool false, .int .i64 0, .int .i64 0, .int .i64 0, .int .i64 0, .bool false] 29 (0, 0)) ∧ Below w.heap.size w wr) (fun s6 _ => k + 6 - (intOf s6).toNat)
            case atStart =>
              refine ⟨k + 1, Nat.le_refl _, by omega, .inl rfl, by go_num, ?_, ?_, ?_⟩
              · rw [Nat.sub_self]
                (simp only [heap_alloc_get, heap_setCell_get, heap_drew_get, heap_drewN_get, size_alloc', size_setCell', size_drew', size_drewN', nat_simp1, nat_simp2, nat_simp3, nat_simp4, nat_simp5, if_true, if_false, Option.map_some, *]; first | done | rfl | simp)
              · (simp only [heap_alloc_get, heap_setCell_get, heap_drew_get, heap_drewN_get, size_alloc', size_setCell', size_drew', size_drewN', nat_simp1, nat_simp2, nat_simp3, nat_simp4, nat_simp5, if_true, if_false, Option.map_some, *]; first | done | rfl | simp)
              · (repeat' (first | (with_reducible exact Below.refl _ _) | (with_reducible refine Below.setCell ?_ ?_ _) | (with_reducible refine Below.alloc ?_ ?_ _) | (with_reducible refine Below.drew ?_) | (with_reducible refine below_drewN ?_ _) | (with_reducible refine Below.trans ?_ (Below.mono (by with_reducible assumption) ?_)) | omega | (simp only [size_alloc', size_setCell', size_drew', size_drewN'] at *; omega)))
            case round =>
              obtain ⟨p, hp1, hp6, hpl, rfl, hb1, hb2, hbl⟩ := hrel
              obtain ⟨_, _⟩ := blk_facts hb1
              obtain ⟨_, _⟩ := blk_facts hb2
              have hzz : w.heap.size + 1 < wr.heap.size := (Array.getElem?_eq_some_iff.1 hb1).1
              by_cases hlt : p < l.length
              · have hlt' : (p : Int) < (l.length : Int) := by omega
                by_cases h6 : p < k + 6
                · have h6' : (p : Int) < (k : Int) + 6 := by omega
                  have hgk : ∀ h, (ByteArray.mk l.toArray)[p]'h = l.getD p 0 := fun h => mk_get l p h
                  obtain ⟨htk, htd⟩ := tk_step l k p hp1 hlt
                  rw [HU.out] at htk htd
                  have HTB := Lib.hid (tkAt_bd u (p - (k + 1)) (by omega))
                  generalize tkAt u (p - (k + 1)) = t at *
                  generalize tdAt u (p - (k + 1)) = d at *
                  have htb := HTB.out
                  generalize l.getD p 0 = c at *
                  have hcb := c.toNat_lt
                  by_cases hc : 48 ≤ c.toNat ∧ c.toNat ≤ 57
                  · have hc1 : (48 : Int) ≤ (c.toNat : Int) := by omega
                    have hc2 : (c.toNat : Int) ≤ 57 := by omega
                    have hc3 : ¬ (c.toNat : Int) = 126 := by omega
                    have hc6 : ((c.toNat : Int) == 126) = false := beq_eq_false_iff_ne.2 hc3
                    have hc4 : (c == 126) = false := beq_eq_false_iff_ne.2 (fun e => by subst e; exact absurd hc (by decide))
                    have HTK := Lib.hid (show ((tkAt u (p + 1 - (k + 1)) : Nat) : Int) = 10 * (t : Int) + ((c.toNat : Int) - 48) by rw [htk]; unfold tkF; rw [if_pos hc]; omega)
                    have HTD := Lib.hid (show tdAt u (p + 1 - (k + 1)) = d by rw [htd, hc4, Bool.or_false])
                    clear htk htd hc4
                    go_wp2_with fail
                    (refine wp_region_more_tail 10 (by kernel_rfl) (by kernel_rfl) ?_; simp only [List.take_succ_cons, List.take_zero, List.drop_succ_cons, List.drop_zero]; (repeat (go_big_quiet_step (fail))); refine wpQuiet_nil ?_; intro wq hwq; have hbq := below_of_more hwq; clear hwq; have hzq := hbq.size; (try simp only [size_alloc', size_setCell', size_drew', size_drewN'] at hzq); (try (refine keep_heap (b := w.heap.size) hbq ?_ ?_; (first | omega | (simp only [size_alloc', size_setCell', size_drew', size_drewN']; omega)); intro hkq; simp only [heap_alloc_get, heap_setCell_get, heap_drew_get, heap_drewN_get, size_alloc', size_setCell', size_drew', size_drewN', nat_simp1, nat_simp2, nat_simp3, nat_simp4, nat_simp5, if_true, if_false, *] at hkq; obtain ⟨_, _⟩ := blk_facts hkq)); (try (refine keep_heap (b := w.heap.size + 1) hbq ?_ ?_; (first | omega | (simp only [size_alloc', size_setCell', size_drew', size_drewN']; omega)); intro hkq; simp only [heap_alloc_get, heap_setCell_get, heap_drew_get, heap_drewN_get, size_alloc', size_setCell', size_drew', size_drewN', nat_simp1, nat_simp2, nat_simp3, nat_simp4, nat_simp5, if_true, if_false, *] at hkq; obtain ⟨_, _⟩ := blk_facts hkq)); skip)
                    cases d
                    · go_wp2_with fail
                      have h3 : ((wq.setCell ⟨w.heap.size + 1, 4, none⟩ (.int .i64 (10 * (t : Int) + ((c.toNat : Int) - 48)))).setCell ⟨w.heap.size + 1, 5, none⟩ (.bool false)).heap[w.heap.size + 1]? = some (.cells #[.bool true, .int .i64 0, .int .i64 0, .int .i64 0, .int .i64 (10 * (t : Int) + ((c.toNat : Int) - 48)), .bool false] 29 (0, 0)) := by (simp only [heap_alloc_get, heap_setCell_get, heap_drew_get, heap_drewN_get, size_alloc', size_setCell', size_drew', size_drewN', nat_simp1, nat_simp2, nat_simp3, nat_simp4, nat_simp5, if_true, if_false, Option.map_some, *]; first | done | rfl | simp)
                      have h4 : ((wq.setCell ⟨w.heap.size + 1, 4, none⟩ (.int .i64 (10 * (t : Int) + ((c.toNat : Int) - 48)))).setCell ⟨w.heap.size + 1, 5, none⟩ (.bool false)).heap[w.heap.size]? = some (.cells #[.bool false, .int .i64 0, .int .i64 0, .int .i64 0, .int .i64 0, .bool false] 29 (0, 0)) := by (simp only [heap_alloc_get, heap_setCell_get, heap_drew_get, heap_drewN_get, size_alloc', size_setCell', size_drew', size_drewN', nat_simp1, nat_simp2, nat_simp3, nat_simp4, nat_simp5, if_true, if_false, Option.map_some, *]; first | done | rfl | simp)
                      go_wp2_with fail
                      go_roundw
                      case rel => exact ⟨p + 1, by omega, by omega, .inr (by omega), by go_num, by rw [HTK.out, HTD.out]; exact h3, h4, by (repeat' (first | (with_reducible exact Below.refl _ _) | (with_reducible refine Below.setCell ?_ ?_ _) | (with_reducible refine Below.alloc ?_ ?_ _) | (with_reducible refine Below.drew ?_) | (with_reducible refine below_drewN ?_ _) | (with_reducible refine Below.trans ?_ (Below.mono (by with_reducible assumption) ?_)) | omega | (simp only [size_alloc', size_setCell', size_drew', size_drewN'] at *; omega)))⟩
                      case measure => simp [intOf]; omega
                    · go_wp2_with fail
                      have h3 : ((wq.setCell ⟨w.heap.size + 1, 4, none⟩ (.int .i64 (10 * (t : Int) + ((c.toNat : Int) - 48)))).setCell ⟨w.heap.size + 1, 5, none⟩ (.bool true)).heap[w.heap.size + 1]? = some (.cells #[.bool true, .int .i64 0, .int .i64 0, .int .i64 0, .int .i64 (10 * (t : Int) + ((c.toNat : Int) - 48)), .bool true] 29 (0, 0)) := by (simp only [heap_alloc_get, heap_setCell_get, heap_drew_get, heap_drewN_get, size_alloc', size_setCell', size_drew', size_drewN', nat_simp1, nat_simp2, nat_simp3, nat_simp4, nat_simp5, if_true, if_false, Option.map_some, *]; first | done | rfl | simp)
                      have h4 : ((wq.setCell ⟨w.heap.size + 1, 4, none⟩ (.int .i64 (10 * (t : Int) + ((c.toNat : Int) - 48)))).setCell ⟨w.heap.size + 1, 5, none⟩ (.bool true)).heap[w.heap.size]? = some (.cells #[.bool false, .int .i64 0, .int .i64 0, .int .i64 0, .int .i64 0, .bool false] 29 (0, 0)) := by (simp only [heap_alloc_get, heap_setCell_get, heap_drew_get, heap_drewN_get, size_alloc', size_setCell', size_drew', size_drewN', nat_simp1, nat_simp2, nat_simp3, nat_simp4, nat_simp5, if_true, if_false, Option.map_some, *]; first | done | rfl | simp)
                      go_wp2_with fail
                      go_roundw
                      case rel => exact ⟨p + 1, by omega, by omega, .inr (by omega), by go_num, by rw [HTK.out, HTD.out]; exact h3, h4, by (repeat' (first | (with_reducible exact Below.refl _ _) | (with_reducible refine Below.setCell ?_ ?_ _) | (with_reducible refine Below.alloc ?_ ?_ _) | (with_reducible refine Below.drew ?_) | (with_reducible refine below_drewN ?_ _) | (with_reducible refine Below.trans ?_ (Below.mono (by with_reducible assumption) ?_)) | omega | (simp only [size_alloc', size_setCell', size_drew', size_drewN'] at *; omega)))⟩
                      case measure => simp [intOf]; omega
                  · have HTK := Lib.hid (show ((tkAt u (p + 1 - (k + 1)) : Nat) : Int) = (t : Int) by rw [htk]; unfold tkF; rw [if_neg hc])
                    by_cases hc0 : 48 ≤ c.toNat
                    · have hc1 : (48 : Int) ≤ (c.toNat : Int) := by omega
                      have hc2 : ¬ (c.toNat : Int) ≤ 57 := by omega
                      by_cases hc5 : c = 126
                      · subst hc5
                        have HTD := Lib.hid (show tdAt u (p + 1 - (k + 1)) = true by rw [htd]; simp)
                        clear htk htd
                        cases d
                        · go_wp2_with fail
                          have h3 : (wr.setCell ⟨w.heap.size + 1, 5, none⟩ (.bool true)).heap[w.heap.size + 1]? = some (.cells #[.bool true, .int .i64 0, .int .i64 0, .int .i64 0, .int .i64 (t : Int), .bool true] 29 (0, 0)) := by (simp only [heap_alloc_get, heap_setCell_get, heap_drew_get, heap_drewN_get, size_alloc', size_setCell', size_drew', size_drewN', nat_simp1, nat_simp2, nat_simp3, nat_simp4, nat_simp5, if_true, if_false, Option.map_some, *]; first | done | rfl | simp)
                          have h4 : (wr.setCell ⟨w.heap.size + 1, 5, none⟩ (.bool true)).heap[w.heap.size]? = some (.cells #[.bool false, .int .i64 0, .int .i64 0, .int .i64 0, .int .i64 0, .bool false] 29 (0, 0)) := by (simp only [heap_alloc_get, heap_setCell_get, heap_drew_get, heap_drewN_get, size_alloc', size_setCell', size_drew', size_drewN', nat_simp1, nat_simp2, nat_simp3, nat_simp4, nat_simp5, if_true, if_false, Option.map_some, *]; first | done | rfl | simp)
                          go_wp2_with fail
                          go_roundw
                          case rel => exact ⟨p + 1, by omega, by omega, .inr (by omega), by go_num, by rw [HTK.out, HTD.out]; exact h3, h4, by (repeat' (first | (with_reducible exact Below.refl _ _) | (with_reducible refine Below.setCell ?_ ?_ _) | (with_reducible refine Below.alloc ?_ ?_ _) | (with_reducible refine Below.drew ?_) | (with_reducible refine below_drewN ?_ _) | (with_reducible refine Below.trans ?_ (Below.mono (by with_reducible assumption) ?_)) | omega | (simp only [size_alloc', size_setCell', size_drew', size_drewN'] at *; omega)))⟩
                          case measure => simp [intOf]; omega
                        · go_wp2_with fail
                          have h3 : (wr.setCell ⟨w.heap.size + 1, 5, none⟩ (.bool true)).heap[w.heap.size + 1]? = some (.cells #[.bool true, .int .i64 0, .int .i64 0, .int .i64 0, .int .i64 (t : Int), .bool true] 29 (0, 0)) := by (simp only [heap_alloc_get, heap_setCell_get, heap_drew_get, heap_drewN_get, size_alloc', size_setCell', size_drew', size_drewN', nat_simp1, nat_simp2, nat_simp3, nat_simp4, nat_simp5, if_true, if_false, Option.map_some, *]; first | done | rfl | simp)
                          have h4 : (wr.setCell ⟨w.heap.size + 1, 5, none⟩ (.bool true)).heap[w.heap.size]? = some (.cells #[.bool false, .int .i64 0, .int .i64 0, .int .i64 0, .int .i64 0, .bool false] 29 (0, 0)) := by (simp only [heap_alloc_get, heap_setCell_get, heap_drew_get, heap_drewN_get, size_alloc', size_setCell', size_drew', size_drewN', nat_simp1, nat_simp2, nat_simp3, nat_simp4, nat_simp5, if_true, if_false, Option.map_some, *]; first | done | rfl | simp)
                          go_wp2_with fail
                          go_roundw
                          case rel => exact ⟨p + 1, by omega, by omega, .inr (by omega), by go_num, by rw [HTK.out, HTD.out]; exact h3, h4, by (repeat' (first | (with_reducible exact Below.refl _ _) | (with_reducible refine Below.setCell ?_ ?_ _) | (with_reducible refine Below.alloc ?_ ?_ _) | (with_reducible refine Below.drew ?_) | (with_reducible refine below_drewN ?_ _) | (with_reducible refine Below.trans ?_ (Below.mono (by with_reducible assumption) ?_)) | omega | (simp only [size_alloc', size_setCell', size_drew', size_drewN'] at *; omega)))⟩
                          case measure => simp [intOf]; omega
                      · have hc3 : ¬ (c.toNat : Int) = 126 := u8_ne hc5
                        have hc6 : ((c.toNat : Int) == 126) = false := beq_eq_false_iff_ne.2 hc3
                        have HTD := Lib.hid (show tdAt u (p + 1 - (k + 1)) = d by rw [htd, beq_eq_false_iff_ne.2 hc5, Bool.or_false])
                        clear htk htd
                        cases d
                        · go_wp2_with fail
                          have h3 : (wr.setCell ⟨w.heap.size + 1, 5, none⟩ (.bool false)).heap[w.heap.size + 1]? = some (.cells #[.bool true, .int .i64 0, .int .i64 0, .int .i64 0, .int .i64 (t : Int), .bool false] 29 (0, 0)) := by (simp only [heap_alloc_get, heap_setCell_get, heap_drew_get, heap_drewN_get, size_alloc', size_setCell', size_drew', size_drewN', nat_simp1, nat_simp2, nat_simp3, nat_simp4, nat_simp5, if_true, if_false, Option.map_some, *]; first | done | rfl | simp)
                          have h4 : (wr.setCell ⟨w.heap.size + 1, 5, none⟩ (.bool false)).heap[w.heap.size]? = some (.cells #[.bool false, .int .i64 0, .int .i64 0, .int .i64 0, .int .i64 0, .bool false] 29 (0, 0)) := by (simp only [heap_alloc_get, heap_setCell_get, heap_drew_get, heap_drewN_get, size_alloc', size_setCell', size_drew', size_drewN', nat_simp1, nat_simp2, nat_simp3, nat_simp4, nat_simp5, if_true, if_false, Option.map_some, *]; first | done | rfl | simp)
                          go_wp2_with fail
                          go_roundw
                          case rel => exact ⟨p + 1, by omega, by omega, .inr (by omega), by go_num, by rw [HTK.out, HTD.out]; exact h3, h4, by (repeat' (first | (with_reducible exact Below.refl _ _) | (with_reducible refine Below.setCell ?_ ?_ _) | (with_reducible refine Below.alloc ?_ ?_ _) | (with_reducible refine Below.drew ?_) | (with_reducible refine below_drewN ?_ _) | (with_reducible refine Below.trans ?_ (Below.mono (by with_reducible assumption) ?_)) | omega | (simp only [size_alloc', size_setCell', size_drew', size_drewN'] at *; omega)))⟩
                          case measure => simp [intOf]; omega
                        · go_wp2_with fail
                          have h3 : (wr.setCell ⟨w.heap.size + 1, 5, none⟩ (.bool true)).heap[w.heap.size + 1]? = some (.cells #[.bool true, .int .i64 0, .int .i64 0, .int .i64 0, .int .i64 (t : Int), .bool true] 29 (0, 0)) := by (simp only [heap_alloc_get, heap_setCell_get, heap_drew_get, heap_drewN_get, size_alloc', size_setCell', size_drew', size_drewN', nat_simp1, nat_simp2, nat_simp3, nat_simp4, nat_simp5, if_true, if_false, Option.map_some, *]; first | done | rfl | simp)
                          have h4 : (wr.setCell ⟨w.heap.size + 1, 5, none⟩ (.bool true)).heap[w.heap.size]? = some (.cells #[.bool false, .int .i64 0, .int .i64 0, .int .i64 0, .int .i64 0, .bool false] 29 (0, 0)) := by (simp only [heap_alloc_get, heap_setCell_get, heap_drew_get, heap_drewN_get, size_alloc', size_setCell', size_drew', size_drewN', nat_simp1, nat_simp2, nat_simp3, nat_simp4, nat_simp5, if_true, if_false, Option.map_some, *]; first | done | rfl | simp)
                          go_wp2_with fail
                          go_roundw
                          case rel => exact ⟨p + 1, by omega, by omega, .inr (by omega), by go_num, by rw [HTK.out, HTD.out]; exact h3, h4, by (repeat' (first | (with_reducible exact Below.refl _ _) | (with_reducible refine Below.setCell ?_ ?_ _) | (with_reducible refine Below.alloc ?_ ?_ _) | (with_reducible refine Below.drew ?_) | (with_reducible refine below_drewN ?_ _) | (with_reducible refine Below.trans ?_ (Below.mono (by with_reducible assumption) ?_)) | omega | (simp only [size_alloc', size_setCell', size_drew', size_drewN'] at *; omega)))⟩
                          case measure => simp [intOf]; omega
                    · have hc1 : ¬ (48 : Int) ≤ (c.toNat : Int) := by omega
                      have hc5 : ¬ c = 126 := fun e => by subst e; exact hc0 (by decide)
                      have hc3 : ¬ (c.toNat : Int) = 126 := u8_ne hc5
                      have hc6 : ((c.toNat : Int) == 126) = false := beq_eq_false_iff_ne.2 hc3
                      have HTD := Lib.hid (show tdAt u (p + 1 - (k + 1)) = d by rw [htd, beq_eq_false_iff_ne.2 hc5, Bool.or_false])
                      clear htk htd
                      cases d
                      · go_wp2_with fail
                        have h3 : (wr.setCell ⟨w.heap.size + 1, 5, none⟩ (.bool false)).heap[w.heap.size + 1]? = some (.cells #[.bool true, .int .i64 0, .int .i64 0, .int .i64 0, .int .i64 (t : Int), .bool false] 29 (0, 0)) := by (simp only [heap_alloc_get, heap_setCell_get, heap_drew_get, heap_drewN_get, size_alloc', size_setCell', size_drew', size_drewN', nat_simp1, nat_simp2, nat_simp3, nat_simp4, nat_simp5, if_true, if_false, Option.map_some, *]; first | done | rfl | simp)
                        have h4 : (wr.setCell ⟨w.heap.size + 1, 5, none⟩ (.bool false)).heap[w.heap.size]? = some (.cells #[.bool false, .int .i64 0, .int .i64 0, .int .i64 0, .int .i64 0, .bool false] 29 (0, 0)) := by (simp only [heap_alloc_get, heap_setCell_get, heap_drew_get, heap_drewN_get, size_alloc', size_setCell', size_drew', size_drewN', nat_simp1, nat_simp2, nat_simp3, nat_simp4, nat_simp5, if_true, if_false, Option.map_some, *]; first | done | rfl | simp)
                        go_wp2_with fail
                        go_roundw
                        case rel => exact ⟨p + 1, by omega, by omega, .inr (by omega), by go_num, by rw [HTK.out, HTD.out]; exact h3, h4, by (repeat' (first | (with_reducible exact Below.refl _ _) | (with_reducible refine Below.setCell ?_ ?_ _) | (with_reducible refine Below.alloc ?_ ?_ _) | (with_reducible refine Below.drew ?_) | (with_reducible refine below_drewN ?_ _) | (with_reducible refine Below.trans ?_ (Below.mono (by with_reducible assumption) ?_)) | omega | (simp only [size_alloc', size_setCell', size_drew', size_drewN'] at *; omega)))⟩
                        case measure => simp [intOf]; omega
                      · go_wp2_with fail
                        have h3 : (wr.setCell ⟨w.heap.size + 1, 5, none⟩ (.bool true)).heap[w.heap.size + 1]? = some (.cells #[.bool true, .int .i64 0, .int .i64 0, .int .i64 0, .int .i64 (t : Int), .bool true] 29 (0, 0)) := by (simp only [heap_alloc_get, heap_setCell_get, heap_drew_get, heap_drewN_get, size_alloc', size_setCell', size_drew', size_drewN', nat_simp1, nat_simp2, nat_simp3, nat_simp4, nat_simp5, if_true, if_false, Option.map_some, *]; first | done | rfl | simp)
                        have h4 : (wr.setCell ⟨w.heap.size + 1, 5, none⟩ (.bool true)).heap[w.heap.size]? = some (.cells #[.bool false, .int .i64 0, .int .i64 0, .int .i64 0, .int .i64 0, .bool false] 29 (0, 0)) := by (simp only [heap_alloc_get, heap_setCell_get, heap_drew_get, heap_drewN_get, size_alloc', size_setCell', size_drew', size_drewN', nat_simp1, nat_simp2, nat_simp3, nat_simp4, nat_simp5, if_true, if_false, Option.map_some, *]; first | done | rfl | simp)
                        go_wp2_with fail
                        go_roundw
                        case rel => exact ⟨p + 1, by omega, by omega, .inr (by omega), by go_num, by rw [HTK.out, HTD.out]; exact h3, h4, by (repeat' (first | (with_reducible exact Below.refl _ _) | (with_reducible refine Below.setCell ?_ ?_ _) | (with_reducible refine Below.alloc ?_ ?_ _) | (with_reducible refine Below.drew ?_) | (with_reducible refine below_drewN ?_ _) | (with_reducible refine Below.trans ?_ (Below.mono (by with_reducible assumption) ?_)) | omega | (simp only [size_alloc', size_setCell', size_drew', size_drewN'] at *; omega)))⟩
                        case measure => simp [intOf]; omega
                · have h6' : ¬ (p : Int) < (k : Int) + 6 := by omega
                  have HFF := Lib.hid (rdN_spec hkl HNE.out HK2.out (j := p - (k + 1)) (by rw [List.length_drop]; omega))
                  rw [HU.out, HTK0.out] at HFF
                  have HTB := Lib.hid (tkAt_bd u (p - (k + 1)) (by omega))
                  generalize tkAt u (p - (k + 1)) = t at *
                  generalize tdAt u (p - (k + 1)) = d at *
                  have htb := HTB.out
                  rw [HCD.out (t : Int) d] at HFF
                  by_cases hE : noteT ⟨true, ⟨0, 0, 0⟩, (t : Int), d⟩ = l
                  · have HE := Lib.hid (rdN_yes hE hl0)
                    have HQ := Lib.hid (fun W => c_sNoteText ⟨true, ⟨0, 0, 0⟩, (t : Int), d⟩ W)
                    rw [hE] at HQ
                    go_wp2_with fail
                    (go_at_call 10; (with_reducible refine (HQ.out _).mono ?_); rintro e w5 ⟨rfl, hbq⟩; have hzq := hbq.size; (try simp only [size_alloc', size_setCell', size_drew', size_drewN'] at hzq); (try (refine keep_heap (b := w.heap.size) hbq ?_ ?_; (first | omega | (simp only [size_alloc', size_setCell', size_drew', size_drewN']; omega)); intro hkq; simp only [heap_alloc_get, heap_setCell_get, heap_drew_get, heap_drewN_get, size_alloc', size_setCell', size_drew', size_drewN', nat_simp1, nat_simp2, nat_simp3, nat_simp4, nat_simp5, if_true, if_false, *] at hkq; obtain ⟨_, _⟩ := blk_facts hkq)); (try (refine keep_heap (b := w.heap.size + 1) hbq ?_ ?_; (first | omega | (simp only [size_alloc', size_setCell', size_drew', size_drewN']; omega)); intro hkq; simp only [heap_alloc_get, heap_setCell_get, heap_drew_get, heap_drewN_get, size_alloc', size_setCell', size_drew', size_drewN', nat_simp1, nat_simp2, nat_simp3, nat_simp4, nat_simp5, if_true, if_false, *] at hkq; obtain ⟨_, _⟩ := blk_facts hkq)); skip)
                    go_wp2_with fail
                    have h5 : ((((((w5.setCell ⟨w.heap.size, 0, none⟩ (.bool true)).setCell ⟨w.heap.size, 1, none⟩ (.int .i64 0)).setCell ⟨w.heap.size, 2, none⟩ (.int .i64 0)).setCell ⟨w.heap.size, 3, none⟩ (.int .i64 0)).setCell ⟨w.heap.size, 4, none⟩ (.int .i64 t)).setCell ⟨w.heap.size, 5, none⟩ (.bool d)).heap[w.heap.size]? = some (.cells #[.bool true, .int .i64 0, .int .i64 0, .int .i64 0, .int .i64 t, .bool d] 29 (0, 0)) := by (simp only [heap_alloc_get, heap_setCell_get, heap_drew_get, heap_drewN_get, size_alloc', size_setCell', size_drew', size_drewN', nat_simp1, nat_simp2, nat_simp3, nat_simp4, nat_simp5, if_true, if_false, Option.map_some, *]; first | done | rfl | simp)
                    exact bodyPost_ret (results_cell_slot rfl _ _ (w.heap.size) 29 #[.bool true, .int .i64 0, .int .i64 0, .int .i64 0, .int .i64 t, .bool d] (0, 0) _ (.bool true) rfl rfl h5 Tryd.underlying29 rfl (by kernel_rfl)) rfl ⟨by rw [HE.out], by (repeat' (first | (with_reducible exact Below.refl _ _) | (with_reducible refine Below.setCell ?_ ?_ _) | (with_reducible refine Below.alloc ?_ ?_ _) | (with_reducible refine Below.drew ?_) | (with_reducible refine below_drewN ?_ _) | (with_reducible refine Below.trans ?_ (Below.mono (by with_reducible assumption) ?_)) | omega | (simp only [size_alloc', size_setCell', size_drew', size_drewN'] at *; omega)))⟩
                  · have HE := Lib.hid (rdN_no (l := l) (fun n hv h => hE (by rw [HFF.out n hv h]; exact h)))
                    have HQ := Lib.hid (fun W => c_sNoteText ⟨true, ⟨0, 0, 0⟩, (t : Int), d⟩ W)
                    generalize noteT ⟨true, ⟨0, 0, 0⟩, (t : Int), d⟩ = q at *
                    have hne : (q == l) = false := beq_eq_false_iff_ne.2 hE
                    go_wp2_with fail
                    (go_at_call 10; (with_reducible refine (HQ.out _).mono ?_); rintro e w5 ⟨rfl, hbq⟩; have hzq := hbq.size; (try simp only [size_alloc', size_setCell', size_drew', size_drewN'] at hzq); (try (refine keep_heap (b := w.heap.size) hbq ?_ ?_; (first | omega | (simp only [size_alloc', size_setCell', size_drew', size_drewN']; omega)); intro hkq; simp only [heap_alloc_get, heap_setCell_get, heap_drew_get, heap_drewN_get, size_alloc', size_setCell', size_drew', size_drewN', nat_simp1, nat_simp2, nat_simp3, nat_simp4, nat_simp5, if_true, if_false, *] at hkq; obtain ⟨_, _⟩ := blk_facts hkq)); (try (refine keep_heap (b := w.heap.size + 1) hbq ?_ ?_; (first | omega | (simp only [size_alloc', size_setCell', size_drew', size_drewN']; omega)); intro hkq; simp only [heap_alloc_get, heap_setCell_get, heap_drew_get, heap_drewN_get, size_alloc', size_setCell', size_drew', size_drewN', nat_simp1, nat_simp2, nat_simp3, nat_simp4, nat_simp5, if_true, if_false, *] at hkq; obtain ⟨_, _⟩ := blk_facts hkq)); skip)
                    go_wp2_with fail
                    have h5 : ((((((w5.setCell ⟨w.heap.size, 0, none⟩ (.bool false)).setCell ⟨w.heap.size, 1, none⟩ (.int .i64 0)).setCell ⟨w.heap.size, 2, none⟩ (.int .i64 0)).setCell ⟨w.heap.size, 3, none⟩ (.int .i64 0)).setCell ⟨w.heap.size, 4, none⟩ (.int .i64 0)).setCell ⟨w.heap.size, 5, none⟩ (.bool false)).heap[w.heap.size]? = some (.cells #[.bool false, .int .i64 0, .int .i64 0, .int .i64 0, .int .i64 0, .bool false] 29 (0, 0)) := by (simp only [heap_alloc_get, heap_setCell_get, heap_drew_get, heap_drewN_get, size_alloc', size_setCell', size_drew', size_drewN', nat_simp1, nat_simp2, nat_simp3, nat_simp4, nat_simp5, if_true, if_false, Option.map_some, *]; first | done | rfl | simp)
                    exact bodyPost_ret (results_cell_slot rfl _ _ (w.heap.size) 29 #[.bool false, .int .i64 0, .int .i64 0, .int .i64 0, .int .i64 0, .bool false] (0, 0) _ (.bool false) rfl rfl h5 Tryd.underlying29 rfl (by kernel_rfl)) rfl ⟨by rw [HE.out], by (repeat' (first | (with_reducible exact Below.refl _ _) | (with_reducible refine Below.setCell ?_ ?_ _) | (with_reducible refine Below.alloc ?_ ?_ _) | (with_reducible refine Below.drew ?_) | (with_reducible refine below_drewN ?_ _) | (with_reducible refine Below.trans ?_ (Below.mono (by with_reducible assumption) ?_)) | omega | (simp only [size_alloc', size_setCell', size_drew', size_drewN'] at *; omega)))⟩
              · have hlt' : ¬ (p : Int) < (l.length : Int) := by omega
                have HFF := Lib.hid (rdN_spec hkl HNE.out HK2.out (j := p - (k + 1)) (by rw [List.length_drop]; omega))
                rw [HU.out, HTK0.out] at HFF
                have HTB := Lib.hid (tkAt_bd u (p - (k + 1)) (by omega))
                generalize tkAt u (p - (k + 1)) = t at *
                generalize tdAt u (p - (k + 1)) = d at *
                have htb := HTB.out
                rw [HCD.out (t : Int) d] at HFF
                by_cases hE : noteT ⟨true, ⟨0, 0, 0⟩, (t : Int), d⟩ = l
                · have HE := Lib.hid (rdN_yes hE hl0)
                  have HQ := Lib.hid (fun W => c_sNoteText ⟨true, ⟨0, 0, 0⟩, (t : Int), d⟩ W)
                  rw [hE] at HQ
                  go_wp2_with fail
                  (go_at_call 10; (with_reducible refine (HQ.out _).mono ?_); rintro e w5 ⟨rfl, hbq⟩; have hzq := hbq.size; (try simp only [size_alloc', size_setCell', size_drew', size_drewN'] at hzq); (try (refine keep_heap (b := w.heap.size) hbq ?_ ?_; (first | omega | (simp only [size_alloc', size_setCell', size_drew', size_drewN']; omega)); intro hkq; simp only [heap_alloc_get, heap_setCell_get, heap_drew_get, heap_drewN_get, size_alloc', size_setCell', size_drew', size_drewN', nat_simp1, nat_simp2, nat_simp3, nat_simp4, nat_simp5, if_true, if_false, *] at hkq; obtain ⟨_, _⟩ := blk_facts hkq)); (try (refine keep_heap (b := w.heap.size + 1) hbq ?_ ?_; (first | omega | (simp only [size_alloc', size_setCell', size_drew', size_drewN']; omega)); intro hkq; simp only [heap_alloc_get, heap_setCell_get, heap_drew_get, heap_drewN_get, size_alloc', size_setCell', size_drew', size_drewN', nat_simp1, nat_simp2, nat_simp3, nat_simp4, nat_simp5, if_true, if_false, *] at hkq; obtain ⟨_, _⟩ := blk_facts hkq)); skip)
                  go_wp2_with fail
                  have h5 : ((((((w5.setCell ⟨w.heap.size, 0, none⟩ (.bool true)).setCell ⟨w.heap.size, 1, none⟩ (.int .i64 0)).setCell ⟨w.heap.size, 2, none⟩ (.int .i64 0)).setCell ⟨w.heap.size, 3, none⟩ (.int .i64 0)).setCell ⟨w.heap.size, 4, none⟩ (.int .i64 t)).setCell ⟨w.heap.size, 5, none⟩ (.bool d)).heap[w.heap.size]? = some (.cells #[.bool true, .int .i64 0, .int .i64 0, .int .i64 0, .int .i64 t, .bool d] 29 (0, 0)) := by (simp only [heap_alloc_get, heap_setCell_get, heap_drew_get, heap_drewN_get, size_alloc', size_setCell', size_drew', size_drewN', nat_simp1, nat_simp2, nat_simp3, nat_simp4, nat_simp5, if_true, if_false, Option.map_some, *]; first | done | rfl | simp)
                  exact bodyPost_ret (results_cell_slot rfl _ _ (w.heap.size) 29 #[.bool true, .int .i64 0, .int .i64 0, .int .i64 0, .int .i64 t, .bool d] (0, 0) _ (.bool true) rfl rfl h5 Tryd.underlying29 rfl (by kernel_rfl)) rfl ⟨by rw [HE.out], by (repeat' (first | (with_reducible exact Below.refl _ _) | (with_reducible refine Below.setCell ?_ ?_ _) | (with_reducible refine Below.alloc ?_ ?_ _) | (with_reducible refine Below.drew ?_) | (with_reducible refine below_drewN ?_ _) | (with_reducible refine Below.trans ?_ (Below.mono (by with_reducible assumption) ?_)) | omega | (simp only [size_alloc', size_setCell', size_drew', size_drewN'] at *; omega)))⟩
                · have HE := Lib.hid (rdN_no (l := l) (fun n hv h => hE (by rw [HFF.out n hv h]; exact h)))
                  have HQ := Lib.hid (fun W => c_sNoteText ⟨true, ⟨0, 0, 0⟩, (t : Int), d⟩ W)
                  generalize noteT ⟨true, ⟨0, 0, 0⟩, (t : Int), d⟩ = q at *
                  have hne : (q == l) = false := beq_eq_false_iff_ne.2 hE
                  go_wp2_with fail
                  (go_at_call 10; (with_reducible refine (HQ.out _).mono ?_); rintro e w5 ⟨rfl, hbq⟩; have hzq := hbq.size; (try simp only [size_alloc', size_setCell', size_drew', size_drewN'] at hzq); (try (refine keep_heap (b := w.heap.size) hbq ?_ ?_; (first | omega | (simp only [size_alloc', size_setCell', size_drew', size_drewN']; omega)); intro hkq; simp only [heap_alloc_get, heap_setCell_get, heap_drew_get, heap_drewN_get, size_alloc', size_setCell', size_drew', size_drewN', nat_simp1, nat_simp2, nat_simp3, nat_simp4, nat_simp5, if_true, if_false, *] at hkq; obtain ⟨_, _⟩ := blk_facts hkq)); (try (refine keep_heap (b := w.heap.size + 1) hbq ?_ ?_; (first | omega | (simp only [size_alloc', size_setCell', size_drew', size_drewN']; omega)); intro hkq; simp only [heap_alloc_get, heap_setCell_get, heap_drew_get, heap_drewN_get, size_alloc', size_setCell', size_drew', size_drewN', nat_simp1, nat_simp2, nat_simp3, nat_simp4, nat_simp5, if_true, if_false, *] at hkq; obtain ⟨_, _⟩ := blk_facts hkq)); skip)
                  go_wp2_with fail
                  have h5 : ((((((w5.setCell ⟨w.heap.size, 0, none⟩ (.bool false)).setCell ⟨w.heap.size, 1, none⟩ (.int .i64 0)).setCell ⟨w.heap.size, 2, none⟩ (.int .i64 0)).setCell ⟨w.heap.size, 3, none⟩ (.int .i64 0)).setCell ⟨w.heap.size, 4, none⟩ (.int .i64 0)).setCell ⟨w.heap.size, 5, none⟩ (.bool false)).heap[w.heap.size]? = some (.cells #[.bool false, .int .i64 0, .int .i64 0, .int .i64 0, .int .i64 0, .bool false] 29 (0, 0)) := by (simp only [heap_alloc_get, heap_setCell_get, heap_drew_get, heap_drewN_get, size_alloc', size_setCell', size_drew', size_drewN', nat_simp1, nat_simp2, nat_simp3, nat_simp4, nat_simp5, if_true, if_false, Option.map_some, *]; first | done | rfl | simp)
                  exact bodyPost_ret (results_cell_slot rfl _ _ (w.heap.size) 29 #[.bool false, .int .i64 0, .int .i64 0, .int .i64 0, .int .i64 0, .bool false] (0, 0) _ (.bool false) rfl rfl h5 Tryd.underlying29 rfl (by kernel_rfl)) rfl ⟨by rw [HE.out], by (repeat' (first | (with_reducible exact Below.refl _ _) | (with_reducible refine Below.setCell ?_ ?_ _) | (with_reducible refine Below.alloc ?_ ?_ _) | (with_reducible refine Below.drew ?_) | (with_reducible refine below_drewN ?_ _) | (with_reducible refine Below.trans ?_ (Below.mono (by with_reducible assumption) ?_)) | omega | (simp only [size_alloc', size_setCell', size_drew', size_drewN'] at *; omega)))⟩
        · have HS := Lib.hid (show ∀ i, i < k + 1 → l.getD i 0 ≠ 47 from fun i hi => by
            rcases Nat.lt_or_ge i k with h | h
            · exact HNE.out i h
            · obtain rfl : i = k := by omega
              exact hc)
          generalize l.getD k 0 = c at *
          have hc' : ¬ (c.toNat : Int) = 47 := u8_ne hc
          go_wp2_with fail
          go_round
          case rel => exact ⟨k + 1, by omega, by go_num, HS.out⟩
          case measure => simp [intOf]; omega
      · have hlt' : ¬ (k : Int) < (l.length : Int) := by omega
        have HK2 := Lib.hid (show k = l.length ∨ l.getD k 0 = 47 from .inl (by omega))
        cases hb : (l.take k == [114])
        · have HCD : Hid (∀ v z, candN (l.take k) v z = ⟨false, (rdP (l.take k)).1, v, z⟩) := Lib.hid (fun v z => by unfold candN; rw [hb]; rfl)
          have HP := Lib.hid (fun W => c_sReadPitch (l.take k) W (by rw [List.length_take]; omega))
          generalize rdP (l.take k) = rp at *
          obtain ⟨⟨ps, pa, po⟩, pok⟩ := rp
          dsimp only at HCD
          generalize htk0 : l.take k = tk at *
          have HTK0 := Lib.hid htk0
          clear htk0
          go_wp2_with fail
          (go_at_call 48; (with_reducible refine (HP.out _).mono ?_); rintro e w5 ⟨rfl, hbq⟩; have hzq := hbq.size; (try simp only [size_alloc', size_setCell', size_drew', size_drewN'] at hzq); (try (refine keep_heap (b := w.heap.size) hbq ?_ ?_; (first | omega | (simp only [size_alloc', size_setCell', size_drew', size_drewN']; omega)); intro hkq; simp only [heap_alloc_get, heap_setCell_get, heap_drew_get, heap_drewN_get, size_alloc', size_setCell', size_drew', size_drewN', nat_simp1, nat_simp2, nat_simp3, nat_simp4, nat_simp5, if_true, if_false, *] at hkq; obtain ⟨_, _⟩ := blk_facts hkq)); (try (refine keep_heap (b := w.heap.size + 1) hbq ?_ ?_; (first | omega | (simp only [size_alloc', size_setCell', size_drew', size_drewN']; omega)); intro hkq; simp only [heap_alloc_get, heap_setCell_get, heap_drew_get, heap_drewN_get, size_alloc', size_setCell', size_drew', size_drewN', nat_simp1, nat_simp2, nat_simp3, nat_simp4, nat_simp5, if_true, if_false, *] at hkq; obtain ⟨_, _⟩ := blk_facts hkq)); skip)
          go_wp2_with fail
          go_loopw [6] (fun s6 wr => ∃ p : Nat, k + 1 ≤ p ∧ p ≤ k + 6 ∧ (p = k + 1 ∨ p ≤ l.length) ∧ s6 = .int .i64 p ∧ wr.heap[w.heap.size + 1]? = some (.cells #[.bool false, .int .i64 ps, .int .i64 pa, .int .i64 po, .int .i64 ((tkAt u (p - (k + 1)) : Nat) : Int), .bool (tdAt u (p - (k + 1)))] 29 (0, 0)) ∧ wr.heap[w.heap.size]? = some (.cells #[.bool false, .int .i64 0, .int .i64 0, .int .i64 0, .int .i64 0, .bool false] 29 (0, 0)) ∧ Below w.heap.size w wr) (fun s6 _ => k + 6 - (intOf s6).toNat)
          case atStart =>
            refine ⟨k + 1, Nat.le_refl _, by omega, .inl rfl, by go_num, ?_, ?_, ?_⟩
            · rw [Nat.sub_self]
              (simp only [heap_alloc_get, heap_setCell_get, heap_drew_get, heap_drewN_get, size_alloc', size_setCell', size_drew', size_drewN', nat_simp1, nat_simp2, nat_simp3, nat_simp4, nat_simp5, if_true, if_false, Option.map_some, *]; first | done | rfl | simp)
            · (simp only [heap_alloc_get, heap_setCell_get, heap_drew_get, heap_drewN_get, size_alloc', size_setCell', size_drew', size_drewN', nat_simp1, nat_simp2, nat_simp3, nat_simp4, nat_simp5, if_true, if_false, Option.map_some, *]; first | done | rfl | simp)
            · (repeat' (first | (with_reducible exact Below.refl _ _) | (with_reducible refine Below.setCell ?_ ?_ _) | (with_reducible refine Below.alloc ?_ ?_ _) | (with_reducible refine Below.drew ?_) | (with_reducible refine below_drewN ?_ _) | (with_reducible refine Below.trans ?_ (Below.mono (by with_reducible assumption) ?_)) | omega | (simp only [size_alloc', size_setCell', size_drew', size_drewN'] at *; omega)))
          case round =>
            obtain ⟨p, hp1, hp6, hpl, rfl, hb1, hb2, hbl⟩ := hrel
            obtain ⟨_, _⟩ := blk_facts hb1
            obtain ⟨_, _⟩ := blk_facts hb2
            have hzz : w.heap.size + 1 < wr.heap.size := (Array.getElem?_eq_some_iff.1 hb1).1
            by_cases hlt : p < l.length
            · exact absurd hp1 (by omega)
            · have hlt' : ¬ (p : Int) < (l.length : Int) := by omega
              have HFF := Lib.hid (rdN_spec hkl HNE.out HK2.out (j := p - (k + 1)) (by rw [List.length_drop]; omega))
              rw [HU.out, HTK0.out] at HFF
              have HTB := Lib.hid (tkAt_bd u (p - (k + 1)) (by omega))
              generalize tkAt u (p - (k + 1)) = t at *
              generalize tdAt u (p - (k + 1)) = d at *
              have htb := HTB.out
              rw [HCD.out (t : Int) d] at HFF
              by_cases hE : noteT ⟨false, ⟨ps, pa, po⟩, (t : Int), d⟩ = l
              · have HE := Lib.hid (rdN_yes hE hl0)
                have HQ := Lib.hid (fun W => c_sNoteText ⟨false, ⟨ps, pa, po⟩, (t : Int), d⟩ W)
                rw [hE] at HQ
                go_wp2_with fail
                (go_at_call 10; (with_reducible refine (HQ.out _).mono ?_); rintro e w5 ⟨rfl, hbq⟩; have hzq := hbq.size; (try simp only [size_alloc', size_setCell', size_drew', size_drewN'] at hzq); (try (refine keep_heap (b := w.heap.size) hbq ?_ ?_; (first | omega | (simp only [size_alloc', size_setCell', size_drew', size_drewN']; omega)); intro hkq; simp only [heap_alloc_get, heap_setCell_get, heap_drew_get, heap_drewN_get, size_alloc', size_setCell', size_drew', size_drewN', nat_simp1, nat_simp2, nat_simp3, nat_simp4, nat_simp5, if_true, if_false, *] at hkq; obtain ⟨_, _⟩ := blk_facts hkq)); (try (refine keep_heap (b := w.heap.size + 1) hbq ?_ ?_; (first | omega | (simp only [size_alloc', size_setCell', size_drew', size_drewN']; omega)); intro hkq; simp only [heap_alloc_get, heap_setCell_get, heap_drew_get, heap_drewN_get, size_alloc', size_setCell', size_drew', size_drewN', nat_simp1, nat_simp2, nat_simp3, nat_simp4, nat_simp5, if_true, if_false, *] at hkq; obtain ⟨_, _⟩ := blk_facts hkq)); skip)
                go_wp2_with fail
                have h5 : ((((((w5.setCell ⟨w.heap.size, 0, none⟩ (.bool false)).setCell ⟨w.heap.size, 1, none⟩ (.int .i64 ps)).setCell ⟨w.heap.size, 2, none⟩ (.int .i64 pa)).setCell ⟨w.heap.size, 3, none⟩ (.int .i64 po)).setCell ⟨w.heap.size, 4, none⟩ (.int .i64 t)).setCell ⟨w.heap.size, 5, none⟩ (.bool d)).heap[w.heap.size]? = some (.cells #[.bool false, .int .i64 ps, .int .i64 pa, .int .i64 po, .int .i64 t, .bool d] 29 (0, 0)) := by (simp only [heap_alloc_get, heap_setCell_get, heap_drew_get, heap_drewN_get, size_alloc', size_setCell', size_drew', size_drewN', nat_simp1, nat_simp2, nat_simp3, nat_simp4, nat_simp5, if_true, if_false, Option.map_some, *]; first | done | rfl | simp)
                exact bodyPost_ret (results_cell_slot rfl _ _ (w.heap.size) 29 #[.bool false, .int .i64 ps, .int .i64 pa, .int .i64 po, .int .i64 t, .bool d] (0, 0) _ (.bool true) rfl rfl h5 Tryd.underlying29 rfl (by kernel_rfl)) rfl ⟨by rw [HE.out], by (repeat' (first | (with_reducible exact Below.refl _ _) | (with_reducible refine Below.setCell ?_ ?_ _) | (with_reducible refine Below.alloc ?_ ?_ _) | (with_reducible refine Below.drew ?_) | (with_reducible refine below_drewN ?_ _) | (with_reducible refine Below.trans ?_ (Below.mono (by with_reducible assumption) ?_)) | omega | (simp only [size_alloc', size_setCell', size_drew', size_drewN'] at *; omega)))⟩
              · have HE := Lib.hid (rdN_no (l := l) (fun n hv h => hE (by rw [HFF.out n hv h]; exact h)))
                have HQ := Lib.hid (fun W => c_sNoteText ⟨false, ⟨ps, pa, po⟩, (t : Int), d⟩ W)
                generalize noteT ⟨false, ⟨ps, pa, po⟩, (t : Int), d⟩ = q at *
                have hne : (q == l) = false := beq_eq_false_iff_ne.2 hE
                go_wp2_with fail
                (go_at_call 10; (with_reducible refine (HQ.out _).mono ?_); rintro e w5 ⟨rfl, hbq⟩; have hzq := hbq.size; (try simp only [size_alloc', size_setCell', size_drew', size_drewN'] at hzq); (try (refine keep_heap (b := w.heap.size) hbq ?_ ?_; (first | omega | (simp only [size_alloc', size_setCell', size_drew', size_drewN']; omega)); intro hkq; simp only [heap_alloc_get, heap_setCell_get, heap_drew_get, heap_drewN_get, size_alloc', size_setCell', size_drew', size_drewN', nat_simp1, nat_simp2, nat_simp3, nat_simp4, nat_simp5, if_true, if_false, *] at hkq; obtain ⟨_, _⟩ := blk_facts hkq)); (try (refine keep_heap (b := w.heap.size + 1) hbq ?_ ?_; (first | omega | (simp only [size_alloc', size_setCell', size_drew', size_drewN']; omega)); intro hkq; simp only [heap_alloc_get, heap_setCell_get, heap_drew_get, heap_drewN_get, size_alloc', size_setCell', size_drew', size_drewN', nat_simp1, nat_simp2, nat_simp3, nat_simp4, nat_simp5, if_true, if_false, *] at hkq; obtain ⟨_, _⟩ := blk_facts hkq)); skip)
                go_wp2_with fail
                have h5 : ((((((w5.setCell ⟨w.heap.size, 0, none⟩ (.bool false)).setCell ⟨w.heap.size, 1, none⟩ (.int .i64 0)).setCell ⟨w.heap.size, 2, none⟩ (.int .i64 0)).setCell ⟨w.heap.size, 3, none⟩ (.int .i64 0)).setCell ⟨w.heap.size, 4, none⟩ (.int .i64 0)).setCell ⟨w.heap.size, 5, none⟩ (.bool false)).heap[w.heap.size]? = some (.cells #[.bool false, .int .i64 0, .int .i64 0, .int .i64 0, .int .i64 0, .bool false] 29 (0, 0)) := by (simp only [heap_alloc_get, heap_setCell_get, heap_drew_get, heap_drewN_get, size_alloc', size_setCell', size_drew', size_drewN', nat_simp1, nat_simp2, nat_simp3, nat_simp4, nat_simp5, if_true, if_false, Option.map_some, *]; first | done | rfl | simp)
                exact bodyPost_ret (results_cell_slot rfl _ _ (w.heap.size) 29 #[.bool false, .int .i64 0, .int .i64 0, .int .i64 0, .int .i64 0, .bool false] (0, 0) _ (.bool false) rfl rfl h5 Tryd.underlying29 rfl (by kernel_rfl)) rfl ⟨by rw [HE.out], by (repeat' (first | (with_reducible exact Below.refl _ _) | (with_reducible refine Below.setCell ?_ ?_ _) | (with_reducible refine Below.alloc ?_ ?_ _) | (with_reducible refine Below.drew ?_) | (with_reducible refine below_drewN ?_ _) | (with_reducible refine Below.trans ?_ (Below.mono (by with_reducible assumption) ?_)) | omega | (simp only [size_alloc', size_setCell', size_drew', size_drewN'] at *; omega)))⟩
        · have HCD : Hid (∀ v z, candN (l.take k) v z = ⟨true, ⟨0, 0, 0⟩, v, z⟩) := Lib.hid (fun v z => by unfold candN; rw [hb]; rfl)
          generalize htk0 : l.take k = tk at *
          have HTK0 := Lib.hid htk0
          clear htk0
          go_wp2_with fail
          go_loopw [6] (fun s6 wr => ∃ p : Nat, k + 1 ≤ p ∧ p ≤ k + 6 ∧ (p = k + 1 ∨ p ≤ l.length) ∧ s6 = .int .i64 p ∧ wr.heap[w.heap.size + 1]? = some (.cells #[.bool true, .int .i64 0, .int .i64 0, .int .i64 0, .int .i64 ((tkAt u (p - (k + 1)) : Nat) : Int), .bool (tdAt u (p - (k + 1)))] 29 (0, 0)) ∧ wr.heap[w.heap.size]? = some (.cells #[.bool false, .int .i64 0, .int .i64 0, .int .i64 0, .int .i64 0, .bool false] 29 (0, 0)) ∧ Below w.heap.size w wr) (fun s6 _ => k + 6 - (intOf s6).toNat)
          case atStart =>
            refine ⟨k + 1, Nat.le_refl _, by omega, .inl rfl, by go_num, ?_, ?_, ?_⟩
            · rw [Nat.sub_self]
              (simp only [heap_alloc_get, heap_setCell_get, heap_drew_get, heap_drewN_get, size_alloc', size_setCell', size_drew', size_drewN', nat_simp1, nat_simp2, nat_simp3, nat_simp4, nat_simp5, if_true, if_false, Option.map_some, *]; first | done | rfl | simp)
            · (simp only [heap_alloc_get, heap_setCell_get, heap_drew_get, heap_drewN_get, size_alloc', size_setCell', size_drew', size_drewN', nat_simp1, nat_simp2, nat_simp3, nat_simp4, nat_simp5, if_true, if_false, Option.map_some, *]; first | done | rfl | simp)
            · (repeat' (first | (with_reducible exact Below.refl _ _) | (with_reducible refine Below.setCell ?_ ?_ _) | (with_reducible refine Below.alloc ?_ ?_ _) | (with_reducible refine Below.drew ?_) | (with_reducible refine below_drewN ?_ _) | (with_reducible refine Below.trans ?_ (Below.mono (by with_reducible assumption) ?_)) | omega | (simp only [size_alloc', size_setCell', size_drew', size_drewN'] at *; omega)))
          case round =>
            obtain ⟨p, hp1, hp6, hpl, rfl, hb1, hb2, hbl⟩ := hrel
            obtain ⟨_, _⟩ := blk_facts hb1
            obtain ⟨_, _⟩ := blk_facts hb2
            have hzz : w.heap.size + 1 < wr.heap.size := (Array.getElem?_eq_some_iff.1 hb1).1
            by_cases hlt : p < l.length
            · exact absurd hp1 (by omega)
            · have hlt' : ¬ (p : Int) < (l.length : Int) := by omega
              have HFF := Lib.hid (rdN_spec hkl HNE.out HK2.out (j := p - (k + 1)) (by rw [List.length_drop]; omega))
              rw [HU.out, HTK0.out] at HFF
              have HTB := Lib.hid (tkAt_bd u (p - (k + 1)) (by omega))
              generalize tkAt u (p - (k + 1)) = t at *
              generalize tdAt u (p - (k + 1)) = d at *
              have htb := HTB.out
              rw [HCD.out (t : Int) d] at HFF
              by_cases hE : noteT ⟨true, ⟨0, 0, 0⟩, (t : Int), d⟩ = l
              · have HE := Lib.hid (rdN_yes hE hl0)
                have HQ := Lib.hid (fun W => c_sNoteText ⟨true, ⟨0, 0, 0⟩, (t : Int), d⟩ W)
                rw [hE] at HQ
                go_wp2_with fail
                (go_at_call 10; (with_reducible refine (HQ.out _).mono ?_); rintro e w5 ⟨rfl, hbq⟩; have hzq := hbq.size; (try simp only [size_alloc', size_setCell', size_drew', size_drewN'] at hzq); (try (refine keep_heap (b := w.heap.size) hbq ?_ ?_; (first | omega | (simp only [size_alloc', size_setCell', size_drew', size_drewN']; omega)); intro hkq; simp only [heap_alloc_get, heap_setCell_get, heap_drew_get, heap_drewN_get, size_alloc', size_setCell', size_drew', size_drewN', nat_simp1, nat_simp2, nat_simp3, nat_simp4, nat_simp5, if_true, if_false, *] at hkq; obtain ⟨_, _⟩ := blk_facts hkq)); (try (refine keep_heap (b := w.heap.size + 1) hbq ?_ ?_; (first | omega | (simp only [size_alloc', size_setCell', size_drew', size_drewN']; omega)); intro hkq; simp only [heap_alloc_get, heap_setCell_get, heap_drew_get, heap_drewN_get, size_alloc', size_setCell', size_drew', size_drewN', nat_simp1, nat_simp2, nat_simp3, nat_simp4, nat_simp5, if_true, if_false, *] at hkq; obtain ⟨_, _⟩ := blk_facts hkq)); skip)
                go_wp2_with fail
                have h5 : ((((((w5.setCell ⟨w.heap.size, 0, none⟩ (.bool true)).setCell ⟨w.heap.size, 1, none⟩ (.int .i64 0)).setCell ⟨w.heap.size, 2, none⟩ (.int .i64 0)).setCell ⟨w.heap.size, 3, none⟩ (.int .i64 0)).setCell ⟨w.heap.size, 4, none⟩ (.int .i64 t)).setCell ⟨w.heap.size, 5, none⟩ (.bool d)).heap[w.heap.size]? = some (.cells #[.bool true, .int .i64 0, .int .i64 0, .int .i64 0, .int .i64 t, .bool d] 29 (0, 0)) := by (simp only [heap_alloc_get, heap_setCell_get, heap_drew_get, heap_drewN_get, size_alloc', size_setCell', size_drew', size_drewN', nat_simp1, nat_simp2, nat_simp3, nat_simp4, nat_simp5, if_true, if_false, Option.map_some, *]; first | done | rfl | simp)
                exact bodyPost_ret (results_cell_slot rfl _ _ (w.heap.size) 29 #[.bool true, .int .i64 0, .int .i64 0, .int .i64 0, .int .i64 t, .bool d] (0, 0) _ (.bool true) rfl rfl h5 Tryd.underlying29 rfl (by kernel_rfl)) rfl ⟨by rw [HE.out], by (repeat' (first | (with_reducible exact Below.refl _ _) | (with_reducible refine Below.setCell ?_ ?_ _) | (with_reducible refine Below.alloc ?_ ?_ _) | (with_reducible refine Below.drew ?_) | (with_reducible refine below_drewN ?_ _) | (with_reducible refine Below.trans ?_ (Below.mono (by with_reducible assumption) ?_)) | omega | (simp only [size_alloc', size_setCell', size_drew', size_drewN'] at *; omega)))⟩
              · have HE := Lib.hid (rdN_no (l := l) (fun n hv h => hE (by rw [HFF.out n hv h]; exact h)))
                have HQ := Lib.hid (fun W => c_sNoteText ⟨true, ⟨0, 0, 0⟩, (t : Int), d⟩ W)
                generalize noteT ⟨true, ⟨0, 0, 0⟩, (t : Int), d⟩ = q at *
                have hne : (q == l) = false := beq_eq_false_iff_ne.2 hE
                go_wp2_with fail
                (go_at_call 10; (with_reducible refine (HQ.out _).mono ?_); rintro e w5 ⟨rfl, hbq⟩; have hzq := hbq.size; (try simp only [size_alloc', size_setCell', size_drew', size_drewN'] at hzq); (try (refine keep_heap (b := w.heap.size) hbq ?_ ?_; (first | omega | (simp only [size_alloc', size_setCell', size_drew', size_drewN']; omega)); intro hkq; simp only [heap_alloc_get, heap_setCell_get, heap_drew_get, heap_drewN_get, size_alloc', size_setCell', size_drew', size_drewN', nat_simp1, nat_simp2, nat_simp3, nat_simp4, nat_simp5, if_true, if_false, *] at hkq; obtain ⟨_, _⟩ := blk_facts hkq)); (try (refine keep_heap (b := w.heap.size + 1) hbq ?_ ?_; (first | omega | (simp only [size_alloc', size_setCell', size_drew', size_drewN']; omega)); intro hkq; simp only [heap_alloc_get, heap_setCell_get, heap_drew_get, heap_drewN_get, size_alloc', size_setCell', size_drew', size_drewN', nat_simp1, nat_simp2, nat_simp3, nat_simp4, nat_simp5, if_true, if_false, *] at hkq; obtain ⟨_, _⟩ := blk_facts hkq)); skip)
                go_wp2_with fail
                have h5 : ((((((w5.setCell ⟨w.heap.size, 0, none⟩ (.bool false)).setCell ⟨w.heap.size, 1, none⟩ (.int .i64 0)).setCell ⟨w.heap.size, 2, none⟩ (.int .i64 0)).setCell ⟨w.heap.size, 3, none⟩ (.int .i64 0)).setCell ⟨w.heap.size, 4, none⟩ (.int .i64 0)).setCell ⟨w.heap.size, 5, none⟩ (.bool false)).heap[w.heap.size]? = some (.cells #[.bool false, .int .i64 0, .int .i64 0, .int .i64 0, .int .i64 0, .bool false] 29 (0, 0)) := by (simp only [heap_alloc_get, heap_setCell_get, heap_drew_get, heap_drewN_get, size_alloc', size_setCell', size_drew', size_drewN', nat_simp1, nat_simp2, nat_simp3, nat_simp4, nat_simp5, if_true, if_false, Option.map_some, *]; first | done | rfl | simp)
                exact bodyPost_ret (results_cell_slot rfl _ _ (w.heap.size) 29 #[.bool false, .int .i64 0, .int .i64 0, .int .i64 0, .int .i64 0, .bool false] (0, 0) _ (.bool false) rfl rfl h5 Tryd.underlying29 rfl (by kernel_rfl)) rfl ⟨by rw [HE.out], by (repeat' (first | (with_reducible exact Below.refl _ _) | (with_reducible refine Below.setCell ?_ ?_ _) | (with_reducible refine Below.alloc ?_ ?_ _) | (with_reducible refine Below.drew ?_) | (with_reducible refine below_drewN ?_ _) | (with_reducible refine Below.trans ?_ (Below.mono (by with_reducible assumption) ?_)) | omega | (simp only [size_alloc', size_setCell', size_drew', size_drewN'] at *; omega)))⟩
end Go.Proofs.YtaikcpidijekpaaDoor
