/- Keys spelt. Conditions: the key within a thousand. -/
import Derived.Test.YtlhekgjckjcbhaaKT
namespace Go.Proofs.Ytlhekgjckjcbhaa
open Go.RowKit
set_option linter.unusedSimpArgs false
set_option linter.unusedVariables false
set_option maxHeartbeats 16000000
theorem c_SpellKey (key : Int) (fl : Bool) (w : World) (h0 : -1000 ≤ key) (h1 : key ≤ 1000) :
    Calls Try.prog 69 #[.int .i64 key, .bool fl] w fun e w' => ∃ (p : Pit) (b : Bool), e = .returned (.tuple #[p.v, .bool b]) ∧ Below w.heap.size w w' := by
  have HZ0 := Lib.hid (heap_alloc_new w (.cells #[.int .i64 0, .int .i64 0, .int .i64 0] 29))
  cases hk : inB key 0 107
  · go_enter Try.func69, Try.ntmps69
    go_wp2_with fail
    go_loopw [6] (fun i wr => i = .int .i64 0 ∧ wr.heap[w.heap.size]? = some (.cells #[.int .i64 0, .int .i64 0, .int .i64 0] 29 (0, 0)) ∧ Below w.heap.size w wr) (fun _ _ => 0)
    case atStart => exact ⟨rfl, HZ0.out, bel1 _ _⟩
    case round =>
      obtain ⟨rfl, hZ, hbl⟩ := hrel
      have HZ := Lib.hid hZ
      clear hZ
      go_wp2_with fail
      (go_at_call 44; refine (c_l1In _ _ _ _).mono ?_; rintro e w' ⟨rfl, rfl⟩; rw [hk])
      go_wp2_with fail
      go_loopw [8] (fun i wr => i = .int .i64 0 ∧ wr.heap[w.heap.size]? = some (.cells #[.int .i64 0, .int .i64 0, .int .i64 0] 29 (0, 0)) ∧ Below w.heap.size w wr) (fun _ _ => 0)
      case atStart => exact ⟨rfl, HZ.out, hbl⟩
      case round =>
        clear HZ hbl
        obtain ⟨rfl, hZ, hbl⟩ := hrel
        have HZ := Lib.hid hZ
        have hz := hbl.size
        clear hZ
        go_wp2_with fail
        (go_at_call 44; refine (c_l1In _ _ _ _).mono ?_; rintro e w' ⟨rfl, rfl⟩; rw [hk])
        have hZ := HZ.out
        obtain ⟨_, _⟩ := blk_facts hZ
        go_wp2_with fail
        exact bodyPost_ret (v := .tuple #[.agg #[.int .i64 0, .int .i64 0, .int .i64 0], .bool false]) (by simp [results, Try.results69, go_sem, *]) rfl ⟨⟨0, 0, 0⟩, false, rfl, by (repeat' (first | (with_reducible exact Below.refl _ _) | (with_reducible refine Below.setCell ?_ ?_ _) | (with_reducible refine Below.alloc ?_ ?_ _) | (with_reducible refine Below.drew ?_) | (with_reducible refine below_drewN ?_ _) | (with_reducible refine Below.trans ?_ (Below.mono (by with_reducible assumption) ?_)) | omega | (simp only [size_alloc', size_setCell', size_drew', size_drewN'] at *; omega)))⟩
  · obtain ⟨hk0, hk107⟩ := inB_iff.1 hk
    go_enter Try.func69, Try.ntmps69
    go_wp2_with fail
    go_loopw [6] (fun i wr => ∃ j : Nat, j ≤ 63 ∧ i = .int .i64 j ∧ wr.heap[w.heap.size]? = some (.cells #[.int .i64 0, .int .i64 0, .int .i64 0] 29 (0, 0)) ∧ Below w.heap.size w wr) (fun i _ => 63 - (intOf i).toNat)
    case atStart => exact ⟨0, by omega, rfl, HZ0.out, bel1 _ _⟩
    case round =>
      obtain ⟨j, hj, rfl, hZ, hbl⟩ := hrel
      have HZ := Lib.hid hZ
      have hz := hbl.size
      clear hZ
      by_cases hlt : j < 63
      · have hj9 : (j : Int) < 63 := by omega
        obtain ⟨hn1, hn2⟩ := nat_bd (p := (j : Int)) (by omega) (by omega)
        have HNat := Lib.hid (fun w => c_l1Natural' j w (by omega))
        generalize natural (j : Int) = nn at *
        go_wp2_with fail
        (go_at_call 44; refine (c_l1In _ _ _ _).mono ?_; rintro e w' ⟨rfl, rfl⟩; rw [hk])
        go_wp2_with fail
        (go_at_call 71; (with_reducible refine (HNat.out _).mono ?_); rintro e w2 ⟨rfl, hb2⟩)
        have HZ := Lib.hid (below_heap hb2 HZ.out)
        have hbl := hbl.trans (hb2.mono hz)
        have hz := hbl.size
        clear hb2
        obtain ⟨_, _⟩ := blk_facts HZ.out
        obtain ⟨D, hD⟩ : ∃ D, key - nn = D := ⟨_, rfl⟩
        have hD1 : -10000 ≤ D := by omega
        have hD2 : D ≤ 10000 := by omega
        by_cases hd0 : D = 0
        · subst hd0
          go_wp2_with fail
          exact bodyPost_ret (v := .tuple #[.agg #[.int .i64 ((j : Int) % 7), .int .i64 0, .int .i64 ((j : Int) / 7)], .bool true]) (by simp [results, Try.results69, go_sem, *]) rfl ⟨⟨(j : Int) % 7, 0, (j : Int) / 7⟩, true, rfl, by (repeat' (first | (with_reducible exact Below.refl _ _) | (with_reducible refine Below.setCell ?_ ?_ _) | (with_reducible refine Below.alloc ?_ ?_ _) | (with_reducible refine Below.drew ?_) | (with_reducible refine below_drewN ?_ _) | (with_reducible refine Below.trans ?_ (Below.mono (by with_reducible assumption) ?_)) | omega | (simp only [size_alloc', size_setCell', size_drew', size_drewN'] at *; omega)))⟩
        · go_wp2_with fail
          go_roundw
          case rel => exact ⟨j + 1, by omega, by go_num, HZ.out, hbl⟩
          case measure => simp [intOf]; omega
      · obtain ⟨j0, rfl⟩ : ∃ j0, j = j0 := ⟨_, rfl⟩
        go_wp2_with fail
        clear hlt hj
        go_loopw [8] (fun i wr => ∃ j : Nat, j ≤ 63 ∧ i = .int .i64 j ∧ wr.heap[w.heap.size]? = some (.cells #[.int .i64 0, .int .i64 0, .int .i64 0] 29 (0, 0)) ∧ Below w.heap.size w wr) (fun i _ => 63 - (intOf i).toNat)
        case atStart => exact ⟨0, by omega, rfl, HZ.out, hbl⟩
        case round =>
          clear HZ hbl hz
          obtain ⟨j, hj, rfl, hZ, hbl⟩ := hrel
          have HZ := Lib.hid hZ
          have hz := hbl.size
          clear hZ
          by_cases hlt : j < 63
          · have hj9 : (j : Int) < 63 := by omega
            obtain ⟨hn1, hn2⟩ := nat_bd (p := (j : Int)) (by omega) (by omega)
            have HNat := Lib.hid (fun w => c_l1Natural' j w (by omega))
            generalize natural (j : Int) = nn at *
            go_wp2_with fail
            (go_at_call 44; refine (c_l1In _ _ _ _).mono ?_; rintro e w' ⟨rfl, rfl⟩; rw [hk])
            go_wp2_with fail
            (go_at_call 71; (with_reducible refine (HNat.out _).mono ?_); rintro e w2 ⟨rfl, hb2⟩)
            have HZ := Lib.hid (below_heap hb2 HZ.out)
            have hbl := hbl.trans (hb2.mono hz)
            have hz := hbl.size
            clear hb2
            obtain ⟨_, _⟩ := blk_facts HZ.out
            obtain ⟨D, hD⟩ : ∃ D, key - nn = D := ⟨_, rfl⟩
            have hD1 : -10000 ≤ D := by omega
            have hD2 : D ≤ 10000 := by omega
            by_cases hd1 : D = 1
            · subst hd1
              cases fl
              · go_wp2_with fail
                exact bodyPost_ret (v := .tuple #[.agg #[.int .i64 ((j : Int) % 7), .int .i64 1, .int .i64 ((j : Int) / 7)], .bool true]) (by simp [results, Try.results69, go_sem, *]) rfl ⟨⟨(j : Int) % 7, 1, (j : Int) / 7⟩, true, rfl, by (repeat' (first | (with_reducible exact Below.refl _ _) | (with_reducible refine Below.setCell ?_ ?_ _) | (with_reducible refine Below.alloc ?_ ?_ _) | (with_reducible refine Below.drew ?_) | (with_reducible refine below_drewN ?_ _) | (with_reducible refine Below.trans ?_ (Below.mono (by with_reducible assumption) ?_)) | omega | (simp only [size_alloc', size_setCell', size_drew', size_drewN'] at *; omega)))⟩
              · go_wp2_with fail
                go_roundw
                case rel => exact ⟨j + 1, by omega, by go_num, HZ.out, hbl⟩
                case measure => simp [intOf]; omega
            · have e1 : (D == 1) = false := by simpa using hd1
              by_cases hd2 : D = -1
              · subst hd2
                cases fl
                · go_wp2_with fail
                  go_roundw
                  case rel => exact ⟨j + 1, by omega, by go_num, HZ.out, hbl⟩
                  case measure => simp [intOf]; omega
                · go_wp2_with fail
                  exact bodyPost_ret (v := .tuple #[.agg #[.int .i64 ((j : Int) % 7), .int .i64 (-1), .int .i64 ((j : Int) / 7)], .bool true]) (by simp [results, Try.results69, go_sem, *]) rfl ⟨⟨(j : Int) % 7, (-1), (j : Int) / 7⟩, true, rfl, by (repeat' (first | (with_reducible exact Below.refl _ _) | (with_reducible refine Below.setCell ?_ ?_ _) | (with_reducible refine Below.alloc ?_ ?_ _) | (with_reducible refine Below.drew ?_) | (with_reducible refine below_drewN ?_ _) | (with_reducible refine Below.trans ?_ (Below.mono (by with_reducible assumption) ?_)) | omega | (simp only [size_alloc', size_setCell', size_drew', size_drewN'] at *; omega)))⟩
              · have e2 : (D == -1) = false := by simpa using hd2
                cases fl
                · go_wp2_with fail
                  go_roundw
                  case rel => exact ⟨j + 1, by omega, by go_num, HZ.out, hbl⟩
                  case measure => simp [intOf]; omega
                · go_wp2_with fail
                  go_roundw
                  case rel => exact ⟨j + 1, by omega, by go_num, HZ.out, hbl⟩
                  case measure => simp [intOf]; omega
          · have hj63 : j = 63 := by omega
            have hZ := HZ.out
            obtain ⟨_, _⟩ := blk_facts hZ
            go_wp2_with fail
            exact bodyPost_ret (v := .tuple #[.agg #[.int .i64 0, .int .i64 0, .int .i64 0], .bool false]) (by simp [results, Try.results69, go_sem, *]) rfl ⟨⟨0, 0, 0⟩, false, rfl, by (repeat' (first | (with_reducible exact Below.refl _ _) | (with_reducible refine Below.setCell ?_ ?_ _) | (with_reducible refine Below.alloc ?_ ?_ _) | (with_reducible refine Below.drew ?_) | (with_reducible refine below_drewN ?_ _) | (with_reducible refine Below.trans ?_ (Below.mono (by with_reducible assumption) ?_)) | omega | (simp only [size_alloc', size_setCell', size_drew', size_drewN'] at *; omega)))⟩
end Go.Proofs.Ytlhekgjckjcbhaa
