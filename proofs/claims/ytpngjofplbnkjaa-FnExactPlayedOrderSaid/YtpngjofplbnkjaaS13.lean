/- Plain laws on the order in which bars are played; the walk of FnWrittenBars. Conditions: none beyond the law's own. -/
import Derived.Test.YtpngjofplbnkjaaS12
import Derived.Test.YtpngjofplbnkjaaS9
namespace Go.Proofs.Ytpngjofplbnkjaa
open Go.RowKit
set_option linter.unusedSimpArgs false
set_option linter.unusedVariables false
set_option maxHeartbeats 8000000

theorem mem_runL {a x : Int} {n : Nat} : x ∈ runL a n ↔ a ≤ x ∧ x < a + n := by
  unfold runL
  rw [List.mem_map]
  constructor
  · rintro ⟨i, hi, rfl⟩
    have := List.mem_range.1 hi
    omega
  · rintro ⟨h1, h2⟩
    exact ⟨(x - a).toNat, List.mem_range.2 (by omega), by omega⟩
theorem sum_cover (l : List Int) (h : ∀ x ∈ l, 0 ≤ x ∧ x ≤ 12) (x : Int) (h0 : 0 ≤ x) : ∀ k, k ≤ l.length → x < (l.take k).sum → ∃ u, ∃ hu : u < l.length, u < k ∧ (l.take u).sum ≤ x ∧ x < (l.take u).sum + l[u] := by
  intro k
  induction k with
  | zero => intro _ hx; simp at hx; omega
  | succ k ih =>
    intro hk hx
    by_cases hlt : x < (l.take k).sum
    · obtain ⟨u, hu, h1, h2⟩ := ih (by omega) hlt
      exact ⟨u, hu, by omega, h2⟩
    · rw [sum_take_succ l k (by omega)] at hx
      exact ⟨k, by omega, by omega, by omega, hx⟩
theorem mem_timesL {F : Int} {s : SD} (h : s.ok = true) (x : Int) : ∀ t : Nat, (t : Int) ≤ s.times → (x ∈ timesL F s t ↔ (0 < t ∧ F ≤ x ∧ x < F + s.bars) ∨ (F + s.bars ≤ x ∧ x < F + s.bars + (s.l.take t).sum)) := by
  obtain ⟨⟨b1, b2⟩, ⟨t1, t2⟩, hl, hx⟩ := SD.ok_iff.1 h
  intro t
  induction t with
  | zero => intro _; simp [timesL]
  | succ t ih =>
    intro ht
    have ih' := ih (by omega)
    have hs := sum_take_bd s.l hx t
    rw [timesL_succ, List.mem_append, List.mem_append, ih', mem_runL]
    have hb : (s.bars.toNat : Int) = s.bars := by omega
    by_cases hlt : t < s.l.length
    · have hy := hx _ (List.getElem_mem hlt)
      have he : x ∈ endL F s t ↔ F + s.bars + (s.l.take t).sum ≤ x ∧ x < F + s.bars + (s.l.take t).sum + s.l[t] := by
        unfold endL
        rw [List.getElem?_eq_getElem hlt]
        dsimp only
        rw [mem_runL]
        omega
      rw [he, sum_take_succ s.l t hlt]
      omega
    · have he : x ∈ endL F s t ↔ False := by
        unfold endL
        rw [List.getElem?_eq_none (by omega)]
        simp
      have e1 : s.l.take (t + 1) = s.l := List.take_of_length_le (by omega)
      have e2 : s.l.take t = s.l := List.take_of_length_le (by omega)
      rw [e2] at hs
      rw [he, e1, e2, or_false]
      omega
theorem take_times {s : SD} (h : s.ok = true) : s.l.take s.times.toNat = s.l := by
  obtain ⟨_, ⟨t1, t2⟩, hl, _⟩ := SD.ok_iff.1 h
  exact List.take_of_length_le (by omega)
theorem mem_playedUp {ds : List SD} (h : ∀ i (hi : i < ds.length), ds[i].ok = true) (x : Int) : ∀ k, k ≤ ds.length → (x ∈ playedUp ds k ↔ 0 ≤ x ∧ x < writtenS (ds.take k)) := by
  intro k
  induction k with
  | zero => intro _; simp [playedUp, writtenS]
  | succ k ih =>
    intro hk
    have hlt : k < ds.length := by omega
    have hb := writtenS_bd ds h k (by omega)
    have hok := h k hlt
    obtain ⟨⟨b1, b2⟩, ⟨t1, t2⟩, hl, hx⟩ := SD.ok_iff.1 hok
    have hsum := sum_bd ds[k].l hx
    rw [playedUp_succ (List.getElem?_eq_getElem hlt), List.mem_append, ih (by omega), mem_timesL hok x _ (by omega), take_times hok, writtenS_succ ds k hlt]
    unfold SD.written
    omega
theorem timesL_length {F : Int} {s : SD} (h : s.ok = true) : ∀ t : Nat, (t : Int) ≤ s.times → ((timesL F s t).length : Int) = t * s.bars + (s.l.take t).sum := by
  obtain ⟨⟨b1, b2⟩, ⟨t1, t2⟩, hl, hx⟩ := SD.ok_iff.1 h
  intro t
  induction t with
  | zero => intro _; simp [timesL]
  | succ t ih =>
    intro ht
    have ih' := ih (by omega)
    rw [timesL_succ, List.length_append, List.length_append, runL_len]
    have he : ((endL F s t).length : Int) = (s.l.take (t + 1)).sum - (s.l.take t).sum := by
      by_cases hlt : t < s.l.length
      · have hy := hx _ (List.getElem_mem hlt)
        rw [sum_take_succ s.l t hlt]
        unfold endL
        rw [List.getElem?_eq_getElem hlt]
        dsimp only
        rw [runL_len]
        omega
      · rw [List.take_of_length_le (show s.l.length ≤ t + 1 by omega), List.take_of_length_le (show s.l.length ≤ t by omega)]
        unfold endL
        rw [List.getElem?_eq_none (by omega)]
        simp
    have hm : ((t : Int) + 1) * s.bars = t * s.bars + s.bars := by rw [Int.add_mul, Int.one_mul]
    push_cast
    rw [hm]
    omega
theorem playedUp_ge {ds : List SD} (h : ∀ i (hi : i < ds.length), ds[i].ok = true) : ∀ k, k ≤ ds.length → writtenS (ds.take k) ≤ (playedUp ds k).length := by
  intro k
  induction k with
  | zero => intro _; simp [playedUp, writtenS]
  | succ k ih =>
    intro hk
    have hlt : k < ds.length := by omega
    have hok := h k hlt
    obtain ⟨⟨b1, b2⟩, ⟨t1, t2⟩, hl, hx⟩ := SD.ok_iff.1 hok
    have h1 := timesL_length (F := writtenS (ds.take k)) hok ds[k].times.toNat (by omega)
    have h2 := ih (by omega)
    rw [playedUp_succ (List.getElem?_eq_getElem hlt), writtenS_succ ds k hlt, List.length_append]
    rw [take_times hok] at h1
    have h3 : ds[k].bars ≤ (ds[k].times.toNat : Int) * ds[k].bars := by
      have : (1 : Int) * ds[k].bars ≤ (ds[k].times.toNat : Int) * ds[k].bars := Int.mul_le_mul_of_nonneg_right (by omega) b1
      omega
    unfold SD.written
    push_cast
    omega
theorem played_all {ds : List SD} (h : secsOk ds = true) : (∀ x, x ∈ playedB ds ↔ 0 ≤ x ∧ x < writtenS ds) ∧ writtenS ds ≤ (playedB ds).length := by
  obtain ⟨_, h2⟩ := secsOk_iff.1 h
  have h3 := fun x => mem_playedUp h2 x ds.length (Nat.le_refl _)
  have h4 := playedUp_ge h2 ds.length (Nat.le_refl _)
  rw [List.take_length] at h4
  simp only [List.take_length] at h3
  unfold playedB
  rw [if_pos h]
  exact ⟨h3, h4⟩
theorem info_bool : (Try.prog.info? 4).map (fun i => (i.zero, i.size, i.bytes)) = some (some (.bool false), 1, 1) := by kernel_rfl
theorem walk_FnWrittenBars (w : World) (v : Value) (bs : List Int) (h : Rd w v 1 bs.length (byteCells bs)) (hb : ∀ x ∈ bs, 0 ≤ x ∧ x ≤ 255) :
    Calls Try.prog 12 #[v] w fun e w' => e = .returned (.bool true) ∧ Below w.heap.size w w' := by
  have h' := Lib.hid h
  obtain ⟨_, A, c, rfl, hnc, hcm, hA⟩ := h
  unfold maxLen at hcm
  clear hA
  by_cases hlen : bs.length ≤ 1048576
  · go_enter Try.func12, Try.ntmps12
    go_wp2_with fail
    (go_at_call 41; (with_reducible refine (c_DrawWrittenBars _ bs _ h'.out hb).mono ?_); rintro e w1 ⟨v1, ss, rfl, hso, hl9, hl8, S2⟩)
    have hz1 := S2.size
    have HR := Lib.hid hso.rd
    clear hso
    go_wp2_with fail
    (go_at_call 40; (with_reducible refine (c_WrittenBars _ ss _ HR.out).mono ?_); rintro e w2 ⟨rfl, hb2⟩; have S2 := (S2.trans (hb2.mono S2.size)))
    have HR2 := Lib.hid (HR.out.later hb2)
    go_wp2_with fail
    (go_at_call 39; (with_reducible refine (c_sWrittenBars _ ss _ HR2.out).mono ?_); rintro e w3 ⟨rfl, hb3⟩; have S2 := (S2.trans (hb3.mono S2.size)))
    have HR3 := Lib.hid (HR2.out.later hb3)
    have hz3 := S2.size
    cases hv : secsOk (ss.map Sec.d)
    · have HW := Lib.hid (show writtenB (ss.map Sec.d) = -1 by unfold writtenB; rw [hv]; rfl)
      rw [HW.out]
      go_wp2_with (go_at_call 25; (with_reducible refine (c_alive _).mono ?_); rintro e wq ⟨rfl, hbq⟩; have hzq := hbq.size; (try simp only [size_alloc', size_setCell', size_drew', size_drewN'] at hzq); (try (refine keep_heap (b := w.heap.size) hbq ?_ ?_; (first | omega | (simp only [size_alloc', size_setCell', size_drew', size_drewN']; omega)); intro hkq; simp only [heap_alloc_get, heap_setCell_get, heap_drew_get, heap_drewN_get, size_alloc', size_setCell', size_drew', size_drewN', nat_simp1, nat_simp2, nat_simp3, nat_simp4, nat_simp5, if_true, if_false, *] at hkq; obtain ⟨_, _⟩ := blk_facts hkq)); skip)
      go_ret
      exact ⟨rfl, S2.trans (hbq.mono hz3)⟩
    · obtain ⟨n1, n2⟩ := writtenS_all hv
      obtain ⟨m1, m2⟩ := played_all hv
      obtain ⟨n, hn⟩ := Int.eq_ofNat_of_zero_le n1
      have HW := Lib.hid (show writtenB (ss.map Sec.d) = (n : Int) by unfold writtenB; rw [if_pos hv]; exact hn)
      have HV := Lib.hid hv
      have HM1 := Lib.hid m1
      rw [hn] at n2 m2
      have hn480 : n ≤ 480 := by omega
      have HN := Lib.hid hn
      clear m1 hv hn n1
      rw [HW.out]
      obtain ⟨i0, hi0, hz0, hzz1, hzz2⟩ := info_parts info_bool
      have hmk := fun W => run_make_rowN (P := Try.prog) 49 4 i0 _ Try.underlying49 hi0 hz0 .i64 .i64 n n (Nat.le_refl _) (by rw [hzz2]; omega) (by omega) W
      rw [hzz1] at hmk
      clear hi0 hz0 hzz1 hzz2
      go_wp2_with fail
      clear hmk
      (go_at_call 42; (with_reducible refine (c_PlayedOrder _ ss _ (HR3.out.later (bel1 _ _)) HV.out).mono ?_); rintro e w4 ⟨go, no, co, rfl, hown4, hno, hb4⟩)
      have hz4 := hb4.size
      simp only [size_alloc'] at hz4
      have hL4 : no = (playedB (ss.map Sec.d)).length := by have := hown4.1; rw [intCells_lenA] at this; omega
      have hgo := (hown4.lt go rfl)
      simp only [size_alloc'] at hgo
      have HC4 := Lib.hid (own_cells hown4)
      have HS4 := Lib.hid (below_heap hb4 (heap_alloc_new w3 _))
      have S4 := S2.trans (((bel1 w3 _).trans (hb4.mono (by simp))).mono S2.size)
      have HN480 := hn480
      generalize playedB (ss.map Sec.d) = ord at *
      subst hL4
      clear hown4 hb4 n2
      have hno9 : (ord.length : Int) ≤ 9223372036854775807 := by omega
      have hgo1 := hgo.1
      clear hgo
      go_wp2_with fail
      go_loopw [7] (fun i wr => ∃ (k : Nat) (cur : Array Value), k ≤ ord.length ∧ i = .int .i64 k ∧ wr.heap[w3.heap.size]? = some (.cells cur 4 (0, 0)) ∧ cur.size = n ∧ (∀ j, j < n → cur[j]? = some (.bool true) ∨ cur[j]? = some (.bool false)) ∧
        (∀ j (hj : j < ord.length), j < k → cur[ord[j].toNat]? = some (.bool true)) ∧ (∀ j u, (intCells ord)[j]? = some u → wr.cell? ⟨go, 0 + j, none⟩ = some u) ∧ w3.heap.size < wr.heap.size ∧ Below w.heap.size w wr) (fun i _ => ord.length - (intOf i).toNat)
      case atStart =>
        refine ⟨0, _, Nat.zero_le _, rfl, HS4.out, (size_madeCells _ _).trans (by simp), fun j hj => .inr ?_, fun j hj h => absurd h (by omega), HC4.out, by omega, S4⟩
        have hm1 : j % 1 = 0 := Nat.mod_one j
        simp [madeCells, hj, hm1, Value.cells]
      case round =>
        obtain ⟨k, cur, hk, rfl, hcur, hsz, hbo, hdone, hcc, hlt, hbl⟩ := hrel
        have hz := hbl.size
        have HSz := Lib.hid hsz
        have HBo := Lib.hid hbo
        have HDo := Lib.hid hdone
        have HCc := Lib.hid hcc
        have HCur := Lib.hid hcur
        clear hsz hbo hdone hcc
        by_cases hkl : k < ord.length
        · have p0 := int_at HCc.out k hkl
          rw [Nat.zero_add] at p0
          obtain ⟨x1, x2⟩ := (HM1.out _).1 (List.getElem_mem hkl)
          rw [HN.out] at x2
          have HDx := Lib.hid (fun (c' : Array Value) (hc : ∀ j (hj : j < ord.length), j < k → c'[ord[j].toNat]? = some (.bool true)) (hc2 : c'[ord[k].toNat]? = some (.bool true)) => show ∀ j (hj : j < ord.length), j < k + 1 → c'[ord[j].toNat]? = some (.bool true) from fun j hj hjk => by
            rcases Nat.lt_succ_iff_lt_or_eq.1 hjk with h3 | rfl
            · exact hc j hj h3
            · exact hc2)
          generalize ord[k] = x at *
          obtain ⟨xn, rfl⟩ := Int.eq_ofNat_of_zero_le x1
          have hxn : xn < n := by omega
          have f0 := (cell_of_row wr w3.heap.size xn cur 4 (0, 0) hcur).trans (Array.getElem?_eq_getElem (show xn < cur.size by rw [HSz.out]; exact hxn))
          have hfr := (blk_facts hcur).2
          generalize cur[xn]'_ = u0 at f0
          have HB' := Lib.hid (hbl.setCell (p := ⟨w3.heap.size, xn, none⟩) hz3 (.bool true))
          have HH' := Lib.hid (show (wr.setCell ⟨w3.heap.size, xn, none⟩ (.bool true)).heap[w3.heap.size]? = some (.cells (cur.setIfInBounds xn (.bool true)) 4 (0, 0)) by simp only [heap_setCell_get, if_true, hcur, Option.map_some])
          have HC' := Lib.hid (fun j u hu => show (wr.setCell ⟨w3.heap.size, xn, none⟩ (.bool true)).cell? ⟨go, 0 + j, none⟩ = some u from
            (World.cell?_of_block (w := wr) (Below.heap_setCell wr ⟨w3.heap.size, xn, none⟩ (.bool true) go (by show go ≠ w3.heap.size; omega))).trans (HCc.out j u hu))
          have hk0 : (0 : Int) ≤ (k : Int) := by omega
          clear hcur
          go_wp2_with fail
          go_roundw
          case rel =>
            refine ⟨k + 1, cur.setIfInBounds xn (.bool true), by omega, by go_num, HH'.out, by rw [Array.size_setIfInBounds]; exact HSz.out, fun j hj => ?_, HDx.out _ (fun j hj hjk => ?_) ?_, HC'.out, by rw [size_setCell']; exact hlt, HB'.out⟩
            · rw [Array.getElem?_setIfInBounds]
              split
              · split
                · exact .inl rfl
                · rename_i h1 h2; exact absurd (by rw [HSz.out]; omega) h2
              · exact HBo.out j hj
            · rw [Array.getElem?_setIfInBounds]
              split
              · split
                · rfl
                · rename_i h1 h2; exact absurd (by rw [HSz.out]; omega) h2
              · exact HDo.out j hj hjk
            · rw [Array.getElem?_setIfInBounds, Int.toNat_natCast, if_pos rfl, if_pos (by rw [HSz.out]; exact hxn)]
          case measure => simp [intOf]; omega
        · have hke : k = ord.length := by omega
          have HAll := Lib.hid (fun j (hj : j < n) => show cur[j]? = some (.bool true) by
            have hm : ((j : Int)) ∈ ord := (HM1.out _).2 ⟨by omega, by rw [HN.out]; omega⟩
            obtain ⟨i, hi, he⟩ := List.getElem_of_mem hm
            have := HDo.out i hi (by omega)
            rw [he] at this
            simpa using this)
          obtain ⟨wo, rfl⟩ : ∃ wo : World, wo = wr := ⟨_, rfl⟩
          clear hke
          go_wp2_with fail
          go_loop [8] (fun i => ∃ k : Nat, k ≤ n ∧ i = .int .i64 k) (fun i => n - (intOf i).toNat)
          case atStart => exact ⟨0, Nat.zero_le _, rfl⟩
          case round =>
            obtain ⟨q, hq, rfl⟩ := hrel
            by_cases hql : q < n
            · have f0 := (cell_of_row wo w3.heap.size q cur 4 (0, 0) HCur.out).trans (HAll.out q hql)
              go_wp2_with fail
              go_round
              case rel => exact ⟨q + 1, by omega, by go_num⟩
              case measure => simp [intOf]; omega
            · have hge : (n : Int) ≤ (ord.length : Int) := m2
              go_wp2_with fail
              go_ret
              exact ⟨rfl, hbl⟩
  · go_enter Try.func12, Try.ntmps12
    go_wp2_with fail
    go_ret
    exact ⟨rfl, Below.refl _ _⟩
end Go.Proofs.Ytpngjofplbnkjaa
