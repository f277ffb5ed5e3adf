/- The walk of FnKeyClasses. Conditions: none. -/
import Derived.Test.YtpbmmhdpmpoabaaK14
import Derived.Test.YtpbmmhdpmpoabaaK9
namespace Go.Proofs.Ytpbmmhdpmpoabaa
open Go.RowKit
set_option linter.unusedSimpArgs false
set_option linter.unusedVariables false
set_option maxHeartbeats 16000000
theorem nd_lenK {α : Type} : ∀ {l1 l2 : List α}, l1.Nodup → (∀ x ∈ l1, x ∈ l2) → l1.length ≤ l2.length := by
  classical
  intro l1
  induction l1 with
  | nil => intro l2 _ _; exact Nat.zero_le _
  | cons x t ih =>
    intro l2 hd hs
    have hx := hs x (by simp)
    have hd' := List.nodup_cons.1 hd
    have h1 := ih (l2 := l2.erase x) hd'.2 (fun y hy => (List.mem_erase_of_ne (by rintro rfl; exact hd'.1 hy)).2 (hs y (by simp [hy])))
    have h2 := List.length_erase_of_mem hx
    have h3 : 0 < l2.length := List.length_pos_of_mem hx
    simp only [List.length_cons]
    omega
theorem clsTo_asc (ns : List Pit) (n : Nat) : (clsTo ns n).Pairwise (· < ·) := by
  unfold clsTo
  rw [List.pairwise_map]
  refine List.Pairwise.imp ?_ (List.Pairwise.filter _ List.pairwise_lt_range)
  intro a b h
  omega
theorem keyCls_asc (ns : List Pit) (k : Nat) (h : k + 1 < (keyCls ns).length) : (keyCls ns)[k] < (keyCls ns)[k + 1] := by
  have hp : (keyCls ns).Pairwise (· < ·) := by
    unfold keyCls
    split
    · exact clsTo_asc ns 12
    · exact List.Pairwise.nil
  exact List.pairwise_iff_getElem.1 hp k (k + 1) (by omega) h (by omega)
theorem keyCls_mem {ns : List Pit} {x : Int} (h : x ∈ keyCls ns) : arePits ns 0 12 = true ∧ ∃ c : Nat, x = c ∧ c < 12 ∧ hasCls ns c = true := by
  unfold keyCls at h
  split at h
  · rename_i ha
    refine ⟨ha, ?_⟩
    unfold clsTo at h
    obtain ⟨c, hc, rfl⟩ := List.mem_map.1 h
    obtain ⟨h1, h2⟩ := List.mem_filter.1 hc
    exact ⟨c, rfl, by simpa using h1, h2⟩
  · cases h
theorem keyCls_few (ns : List Pit) : (keyCls ns).length ≤ ns.length := by
  have hn : (keyCls ns).Nodup := by
    unfold keyCls
    split
    · exact (clsTo_asc ns 12).imp (fun h => by omega)
    · exact List.Pairwise.nil
  have := nd_lenK (l2 := ns.map fun p => keyOf p % 12) hn (fun x hx => by
    obtain ⟨_, c, rfl, _, hc⟩ := keyCls_mem hx
    unfold hasCls at hc
    rw [List.any_eq_true] at hc
    obtain ⟨p, hp, he⟩ := hc
    exact List.mem_map.2 ⟨p, hp, by simpa using he⟩)
  rwa [List.length_map] at this
theorem c_DrawKeyClasses (v : Value) (bs : List Int) (w : World) (h : Rd w v 1 bs.length (byteCells bs)) (hb : ∀ x ∈ bs, 0 ≤ x ∧ x ≤ 255) :
    Calls Try.prog 30 #[v] w fun e w' => ∃ (u : Value) (ns : List Pit), e = .returned u ∧ Rd w' u 3 ns.length (pitCells ns) ∧ ns.length ≤ 13 ∧ Below w.heap.size w w' := by
  go_enter Try.func30, Try.ntmps30
  go_wp2_with fail
  (go_at_call 54; (with_reducible refine (c_open _ _ _ (h) hb).mono ?_); rintro e w1 ⟨g, rfl, hg, hr1, hbq⟩; have hzq := hbq.size; (try simp only [size_alloc', size_setCell', size_drew', size_drewN'] at hzq hg); (try (refine keep_heap (b := w.heap.size) hbq ?_ ?_; (first | omega | (simp only [size_alloc', size_setCell', size_drew', size_drewN']; omega)); intro hkq; simp only [heap_alloc_get, heap_setCell_get, heap_drew_get, heap_drewN_get, size_alloc', size_setCell', size_drew', size_drewN', nat_simp1, nat_simp2, nat_simp3, nat_simp4, nat_simp5, if_true, if_false, *] at hkq; obtain ⟨_, _⟩ := blk_facts hkq)); (try (refine ne_cps (a := w.heap.size) (b := w1.heap.size) ?_ ?_; omega; intro _ _)); (try (refine ne_cps (a := w.heap.size) (b := w1.heap.size + 1) ?_ ?_; omega; intro _ _)); (try (refine ne_cps (a := w.heap.size) (b := w1.heap.size + 1 + 1) ?_ ?_; omega; intro _ _)); skip)
  have hr2 : Rdr w1 g (100 + 80) := hr1.mono (by omega)
  clear hr1
  go_wp2_with fail
  (go_at_call 62; (with_reducible refine (c_l20Chord g 100 _ ?_).mono ?_); (focus (repeat' (first | (with_reducible assumption) | (with_reducible refine Rdr.alloc ?_ _) | (with_reducible refine Rdr.setCell ?_ ?_ _) | (with_reducible refine Rdr.drewN ?_ _) | (with_reducible refine Rdr.drew ?_) | (show _ < _; first | omega | (simp only [size_alloc', size_setCell', size_drew', size_drewN'] at *; omega))))); rintro e w2 ⟨u, ns, rfl, hrd, hln, hrq, hgq⟩; have hsq := hgq.size; (try simp only [size_alloc', size_setCell', size_drew', size_drewN'] at hsq); skip)
  have hbel : Below w.heap.size w w2 := below_of_kp hbq hgq (by omega) (by omega)
  go_wp2_with fail
  go_ret
  exact ⟨u, ns, rfl, hrd, hln, hbel⟩
set_option maxRecDepth 100000 in
theorem walk_FnKeyClasses (w : World) (v : Value) (bs : List Int) (h : Rd w v 1 bs.length (byteCells bs)) (hb : ∀ x ∈ bs, 0 ≤ x ∧ x ≤ 255) :
    Calls Try.prog 8 #[v] w fun e w' => e = .returned (.bool true) ∧ Below w.heap.size w w' := by
  have h' := Lib.hid h
  obtain ⟨_, A, c, rfl, hnc, hcm, hA⟩ := h
  unfold maxLen at hcm
  clear hA
  have HBB := Lib.hid hb
  clear hb
  by_cases hlen : (bs.length : Int) ≤ 1048576
  · have hln : ¬ (1048576 < (bs.length : Int)) := by omega
    go_enter Try.func8, Try.ntmps8
    go_wp2_with fail
    (go_at_call 30; (with_reducible refine (c_DrawKeyClasses _ bs _ h'.out HBB.out).mono ?_); rintro e w1 ⟨u, ns, rfl, hrd, hn13, hb1⟩)
    have S := hb1
    have HN := Lib.hid hrd
    obtain ⟨_, An, cn, rfl, hncn, hcn, _⟩ := HN.out
    unfold maxLen at hcn
    clear hrd
    obtain ⟨X, hX⟩ : ∃ X, keyCls ns = X := ⟨_, rfl⟩
    have HMem := Lib.hid (show ∀ x ∈ X, arePits ns 0 12 = true ∧ ∃ c : Nat, x = c ∧ c < 12 ∧ hasCls ns c = true from fun x hx => keyCls_mem (by rw [hX]; exact hx))
    have HAsc := Lib.hid (show ∀ k (h : k + 1 < X.length), X[k] < X[k + 1] from by subst hX; exact keyCls_asc ns)
    have hfew : X.length ≤ ns.length := by rw [← hX]; exact keyCls_few ns
    have HXX := Lib.hid hX
    clear hX
    go_wp2_with fail
    (go_at_call 25; (with_reducible refine (c_KeyClasses _ ns _ HN.out).mono ?_); rintro e w2 hpost; rw [HXX.out] at hpost; obtain ⟨v2, rfl, ho2, hb2⟩ := hpost; have S := S.trans (hb2.mono S.size))
    have HX2 := Lib.hid (Rd.of_own ho2)
    obtain ⟨_, Ax, cx, rfl, hncx, hcx, _⟩ := HX2.out
    unfold maxLen at hcx
    have HN2 := Lib.hid (HN.out.below (Nat.le_refl _) hb2)
    clear ho2
    go_wp2_with fail
    (go_at_call 24; (with_reducible refine (c_sKeyClasses _ ns _ HN2.out).mono ?_); rintro e w3 hpost; rw [HXX.out] at hpost; obtain ⟨v3, rfl, ho3, hb3⟩ := hpost; have S := S.trans (hb3.mono S.size))
    have HW3 := Lib.hid (Rd.of_own ho3)
    have HX3 := Lib.hid (HX2.out.below (Nat.le_refl _) hb3)
    have HN3 := Lib.hid (HN2.out.below (Nat.le_refl _) hb3)
    clear ho3
    go_wp2_with fail
    (go_at_call 31; (with_reducible refine (c_sameInts_eq _ _ X _ HX3.out HW3.out).mono ?_); rintro e w4 ⟨rfl, hb4⟩; have S := S.trans (hb4.mono S.size))
    have HX4 := Lib.hid (HX3.out.below (Nat.le_refl _) hb4)
    have HN4 := Lib.hid (HN3.out.below (Nat.le_refl _) hb4)
    obtain ⟨_, A4, c4, he4, _, _, hA4⟩ := HX4.out
    cases he4
    obtain ⟨_, A5, c5, he5, _, _, hA5⟩ := HN4.out
    cases he5
    have HAX := Lib.hid hA4
    have HAN := Lib.hid hA5
    have HS := Lib.hid S
    clear hA4 hA5 hb1 hb2 hb3 hb4 S
    go_wp2_with fail
    go_loopw [5] (fun i wr => ∃ k : Nat, k ≤ X.length ∧ i = .int .i64 k ∧ Below w4.heap.size w4 wr) (fun i _ => X.length - (intOf i).toNat)
    case atStart => exact ⟨0, Nat.zero_le _, rfl, Below.refl _ _⟩
    case round =>
      obtain ⟨k, hk, rfl, hbo⟩ := hrel
      have hzo := hbo.size
      by_cases hlt : k < X.length
      · obtain ⟨hap, c, hc, hc12, hhas⟩ := HMem.out X[k] (List.getElem_mem hlt)
        have HAP := Lib.hid hap
        have HHas := Lib.hid hhas
        obtain ⟨bx, ox, rfl, hcx4⟩ := HAX.out (by omega)
        have hxk := int_at (fun j u hu => below_cell hbo (hcx4 j u hu)) k hlt
        rw [hc] at hxk
        have HXK := Lib.hid hxk
        have HCX := Lib.hid hcx4
        have hk1 : (0 : Int) ≤ (k : Int) := by omega
        have hk2 : (k : Int) < (X.length : Int) := by omega
        have HEc := Lib.hid hc
        obtain ⟨wo, rfl⟩ : ∃ wo : World, wo = wr := ⟨_, rfl⟩
        clear hap hhas hxk hcx4 hc
        go_wp2_with fail
        go_loopw [6, 7] (fun f i wr => ∃ j : Nat, j ≤ ns.length ∧ i = .int .i64 j ∧ f = .bool (hasCls (ns.take j) c) ∧ Below wo.heap.size wo wr) (fun _ i _ => ns.length - (intOf i).toNat)
        case atStart => exact ⟨0, Nat.zero_le _, rfl, rfl, Below.refl _ _⟩
        case round =>
          obtain ⟨j, hj, rfl, rfl, hbl⟩ := hrel
          have hz := hbl.size
          by_cases hltj : j < ns.length
          · obtain ⟨b1, off, rfl, hcc⟩ := HAN.out (by omega)
            obtain ⟨p0, p1, p2⟩ := pit_at (fun j u hu => below_cell hbl (below_cell hbo (hcc j u hu))) j hltj
            have HTk := Lib.hid (hasCls_take_succ ns j hltj c)
            have hkv := keyOf_bdV ((arePits_iff.1 HAP.out).2 j hltj)
            have hxk := below_cell hbl HXK.out
            have hj1 : (0 : Int) ≤ (j : Int) := by omega
            have hj2 : (j : Int) < (ns.length : Int) := by omega
            generalize ns[j] = x at *
            obtain ⟨xs, xa, xo⟩ := x
            obtain ⟨K, hK⟩ : ∃ K, keyOf ⟨xs, xa, xo⟩ = K := ⟨_, rfl⟩
            rw [hK] at hkv HTk
            obtain ⟨hkv1, hkv2⟩ := hkv
            have hX0 : 0 ≤ K + 12 := by omega
            have HKC := Lib.hid (fun w => show Calls Try.prog 20 #[.agg #[.int .i64 xs, .int .i64 xa, .int .i64 xo]] w fun e w' => e = .returned (.int .i64 K) ∧ Below w.heap.size w w' by have := c_PitchKey ⟨xs, xa, xo⟩ w; rw [hK] at this; exact this)
            have HTk := Lib.hid (show hasCls (ns.take (j + 1)) c = (hasCls (ns.take j) c || ((K + 12) % 12 == (c : Int))) by rw [HTk.out, show (K + 12) % 12 = K % 12 by omega])
            dsimp only at p0 p1 p2
            clear hcc hK
            cases hf : hasCls (ns.take j) c
            · have HN9 := Lib.hid (show hasCls (ns.take (j + 1)) c = ((K + 12) % 12 == (c : Int)) by rw [HTk.out, hf]; rfl)
              go_wp2_with fail
              (refine wp_region_more_lit (by kernel_rfl) (by kernel_rfl) ?_; (repeat (go_big_quiet_step ((go_at_call 20; with_reducible exact Calls.more_of (HKC.out _))))); refine wpQuiet_nil ?_; intro wq hwq; have hbq := below_of_more hwq; clear hwq; have hzq := hbq.size; (try simp only [size_alloc', size_setCell', size_drew', size_drewN'] at hzq); (try (refine keep_heap (b := w.heap.size) hbq ?_ ?_; (first | omega | (simp only [size_alloc', size_setCell', size_drew', size_drewN']; omega)); intro hkq; simp only [heap_alloc_get, heap_setCell_get, heap_drew_get, heap_drewN_get, size_alloc', size_setCell', size_drew', size_drewN', nat_simp1, nat_simp2, nat_simp3, nat_simp4, nat_simp5, if_true, if_false, *] at hkq; obtain ⟨_, _⟩ := blk_facts hkq)); skip)
              go_wp2
              go_roundw
              case rel => exact ⟨j + 1, by omega, by go_num, by rw [HN9.out]; first | rfl | (rw [show (K + 12) % 12 = K % 12 by omega]), hbl.trans (hbq.mono hz)⟩
              case measure => simp [intOf]; omega
            · have HN9 := Lib.hid (show hasCls (ns.take (j + 1)) c = true by rw [HTk.out, hf]; rfl)
              go_wp2_with fail
              (refine wp_region_more_lit (by kernel_rfl) (by kernel_rfl) ?_; (repeat (go_big_quiet_step ((go_at_call 20; with_reducible exact Calls.more_of (HKC.out _))))); refine wpQuiet_nil ?_; intro wq hwq; have hbq := below_of_more hwq; clear hwq; have hzq := hbq.size; (try simp only [size_alloc', size_setCell', size_drew', size_drewN'] at hzq); (try (refine keep_heap (b := w.heap.size) hbq ?_ ?_; (first | omega | (simp only [size_alloc', size_setCell', size_drew', size_drewN']; omega)); intro hkq; simp only [heap_alloc_get, heap_setCell_get, heap_drew_get, heap_drewN_get, size_alloc', size_setCell', size_drew', size_drewN', nat_simp1, nat_simp2, nat_simp3, nat_simp4, nat_simp5, if_true, if_false, *] at hkq; obtain ⟨_, _⟩ := blk_facts hkq)); skip)
              go_wp2
              go_roundw
              case rel => exact ⟨j + 1, by omega, by go_num, by rw [HN9.out], hbl.trans (hbq.mono hz)⟩
              case measure => simp [intOf]; omega
          · have hke : j = ns.length := by omega
            have hall : hasCls (ns.take j) c = true := by rw [hke, List.take_length]; exact HHas.out
            rw [hall]
            have hxk := below_cell hbl HXK.out
            clear hall
            rcases k with _ | k
            · go_wp2_with fail
              (refine wp_region_more_lit (by kernel_rfl) (by kernel_rfl) ?_; (repeat (go_big_quiet_step (fail))); refine wpQuiet_nil ?_; intro wq hwq; have hbq := below_of_more hwq; clear hwq; have hzq := hbq.size; (try simp only [size_alloc', size_setCell', size_drew', size_drewN'] at hzq); (try (refine keep_heap (b := w.heap.size) hbq ?_ ?_; (first | omega | (simp only [size_alloc', size_setCell', size_drew', size_drewN']; omega)); intro hkq; simp only [heap_alloc_get, heap_setCell_get, heap_drew_get, heap_drewN_get, size_alloc', size_setCell', size_drew', size_drewN', nat_simp1, nat_simp2, nat_simp3, nat_simp4, nat_simp5, if_true, if_false, *] at hkq; obtain ⟨_, _⟩ := blk_facts hkq)); skip)
              go_wp2
              go_roundw
              case rel => exact ⟨1, by omega, by go_num, hbo.trans (Below.mono (hbl.trans (hbq.mono hz)) hzo)⟩
              case measure => simp [intOf]; omega
            · have hlk : k < X.length := by omega
              have hx0 := int_at (fun j u hu => below_cell hbl (below_cell hbo (HCX.out j u hu))) k hlk
              have hlt' := HAsc.out k hlt
              rw [HEc.out] at hlt'
              generalize X[k] = y at *
              have hnl : ((c : Int) ≤ y) = False := eq_false (by omega)
              have hk0 : (0 : Int) < (k : Int) + 1 := by omega
              have hk9 : (k : Int) < (X.length : Int) := by omega

              go_wp2_with fail
              (refine wp_region_more_lit (by kernel_rfl) (by kernel_rfl) ?_; (repeat (go_big_quiet_step (fail))); refine wpQuiet_nil ?_; intro wq hwq; have hbq := below_of_more hwq; clear hwq; have hzq := hbq.size; (try simp only [size_alloc', size_setCell', size_drew', size_drewN'] at hzq); (try (refine keep_heap (b := w.heap.size) hbq ?_ ?_; (first | omega | (simp only [size_alloc', size_setCell', size_drew', size_drewN']; omega)); intro hkq; simp only [heap_alloc_get, heap_setCell_get, heap_drew_get, heap_drewN_get, size_alloc', size_setCell', size_drew', size_drewN', nat_simp1, nat_simp2, nat_simp3, nat_simp4, nat_simp5, if_true, if_false, *] at hkq; obtain ⟨_, _⟩ := blk_facts hkq)); skip)
              go_wp2
              go_roundw
              case rel => exact ⟨k + 1 + 1, by omega, by go_num, hbo.trans (Below.mono (hbl.trans (hbq.mono hz)) hzo)⟩
              case measure => simp [intOf]; omega
      · have hle : (X.length : Int) ≤ (ns.length : Int) := by omega
        go_wp2_with fail
        (go_at_call 19; (with_reducible refine (c_alive _).mono ?_); rintro e wz ⟨rfl, hbz⟩)
        go_wp2
        go_ret
        exact ⟨rfl, HS.out.trans (Below.mono (hbo.trans (hbz.mono hzo)) HS.out.size)⟩
  · have hln : 1048576 < (bs.length : Int) := by omega
    go_enter Try.func8, Try.ntmps8
    go_wp2
    go_ret
    exact ⟨rfl, Below.refl _ _⟩
end Go.Proofs.Ytpbmmhdpmpoabaa
