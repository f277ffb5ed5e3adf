/- Contracts of the functions that mark voices and ask the marks. Conditions: lengths up to 2^20. -/
import Derived.Test.YtaikcpidijekpaaDoorB6
namespace Go.Proofs.YtaikcpidijekpaaDoor
open Go.RowKit
set_option linter.unusedSimpArgs false
set_option linter.unusedVariables false
set_option maxHeartbeats 4000000
def mkNt (m : Int) : Nt := ⟨m % 3 == 0, ⟨m + 1, m + 2, m + 3⟩, m + 4, (m + 5) % 3 == 0⟩
def mkNts (m : Int) (n : Nat) : List Nt := (List.range n).map fun (i : Nat) => mkNt (m + 6 * (i : Int))
theorem mkNts_len (m : Int) (n : Nat) : (mkNts m n).length = n := by simp [mkNts]
theorem mkNts_succ (m : Int) (n : Nat) : ntCells (mkNts m (n + 1)) = ntCells (mkNts m n) ++ (mkNt (m + 6 * n)).cells := by
  show cellsOf _ _ = _
  unfold mkNts
  rw [List.range_succ, List.map_append, cellsOf_append, List.map_cons, List.map_nil, cellsOf_cons, cellsOf_nil, List.append_nil]
theorem mkNts_get (m : Int) (n k : Nat) (h : k < (mkNts m n).length) : (mkNts m n)[k] = mkNt (m + 6 * k) := by simp [mkNts]

theorem mkNt_cells (M : Int) : [Value.bool (M % 3 == 0), .int .i64 (M + 1), .int .i64 (M + 1 + 1), .int .i64 (M + 1 + 1 + 1), .int .i64 (M + 1 + 1 + 1 + 1), .bool ((M + 1 + 1 + 1 + 1 + 1) % 3 == 0)] = (mkNt M).cells := by
  rw [show M + 1 + 1 + 1 + 1 + 1 = M + 5 by omega, show M + 1 + 1 + 1 + 1 = M + 4 by omega, show M + 1 + 1 + 1 = M + 3 by omega, show M + 1 + 1 = M + 2 by omega]
  rfl
theorem kp_store6 {g o : Nat} {a w : World} (h : a.grownBy w (some g)) (v0 v1 v2 v3 v4 v5 : Value) :
    a.grownBy ((((((w.setCell ⟨g, o, none⟩ v0).setCell ⟨g, o + 1, none⟩ v1).setCell ⟨g, o + 2, none⟩ v2).setCell ⟨g, o + 3, none⟩ v3).setCell ⟨g, o + 4, none⟩ v4).setCell ⟨g, o + 5, none⟩ v5) (some g) := by
  have st : ∀ (w : World) (p : Addr) (u : Value), a.grownBy w (some g) → p.block = g → a.grownBy (w.setCell p u) (some g) := fun w p u h hp =>
    ⟨h.os, h.tape, h.output, by simpa [World.setCell] using h.size, fun i hi hne => (Below.heap_setCell w p u i (by rintro rfl; exact hne (by rw [hp]))).trans (h.block i hi hne)⟩
  exact st _ _ _ (st _ _ _ (st _ _ _ (st _ _ _ (st _ _ _ (st _ _ _ h rfl) rfl) rfl) rfl) rfl) rfl

def Marked (base E size : Nat) (v : Value) (n : Nat) (xs : List Value) (m : Int) (w : World) (e : Ending) (w' : World) : Prop :=
  e = .returned (.int .i64 m) ∧ w'.ownsRow base E size v n xs ∧ w.grownBy w' v.ownBlock
theorem c_markNoteS (base : Nat) (v : Value) (n : Nat) (xs : List Value) (m : Int) (w : World) (h : w.ownsRow base 29 6 v n xs) (hn : n ≤ 1048576) (hm0 : 0 ≤ m) (hm1 : m ≤ 1000000000) :
    Calls Tryd.prog 30 #[v, .int .i64 m] w (Marked base 29 6 v n (ntCells (mkNts m n)) (m + 6 * n) w) := by
  rcases h.2 with ⟨rfl, rfl⟩ | ⟨g, cap, cur0, rfl, hbg, hg0, hnc, hcm, hsz0, htk0⟩
  · go_enter Tryd.func30, Tryd.ntmps30
    go_wp2
    go_loop [1, 5] (fun t i => i = .int .i64 0 ∧ t = .int .i64 m) (fun _ _ => 0)
    case atStart => exact ⟨rfl, rfl⟩
    case round =>
      obtain ⟨rfl, rfl⟩ := hrel
      go_wp2
      go_ret
      exact ⟨by simp, ⟨by simp [mkNts, cellsOf], .inl ⟨rfl, rfl⟩⟩, World.grownBy.refl _ _⟩
  · have HG := Lib.hid hg0
    have HS0 := Lib.hid hsz0
    clear hg0 hsz0 htk0 h
    unfold maxLen at hcm
    go_enter Tryd.func30, Tryd.ntmps30
    go_wp2
    go_loopw [1, 5] (fun t i wr => ∃ (k : Nat) (M : Int) (cur : Array Value), k ≤ n ∧ i = .int .i64 k ∧ t = .int .i64 M ∧ M = m + 6 * k ∧ wr.heap[g]? = some (.cells cur 29 (0, 0)) ∧ cur.size = cap * 6 ∧ cur.toList.take (k * 6) = ntCells (mkNts m k) ∧ w.grownBy wr (some g)) (fun _ i _ => n - (intOf i).toNat)
    case atStart => exact ⟨0, m, cur0, Nat.zero_le _, rfl, rfl, by simp, HG.out, HS0.out, by simp [mkNts, cellsOf], World.grownBy.refl _ _⟩
    case round =>
      obtain ⟨k, M, cur, hk, rfl, rfl, hM, hcur, hsz, htk, hkp⟩ := hrel
      have M0 : 0 ≤ M := by omega
      have M1 : M ≤ 1000000000 + 6 * 1048576 := by omega
      have HM := Lib.hid hM
      have HS := Lib.hid hsz
      have HT := Lib.hid htk
      have HC := Lib.hid hcur
      clear hM hsz htk
      by_cases hlt : k < n
      · obtain ⟨u0, u1, u2, u3, u4, u5, f0, f1, f2, f3, f4, f5, hfr⟩ := there6 hcur (k * 6) (by rw [HS.out]; omega)
        clear hcur
        obtain ⟨cur', hc', hs', ht'⟩ := store6 HC.out (k * 6) (.bool (M % 3 == 0)) (.int .i64 (M + 1)) (.int .i64 (M + 1 + 1)) (.int .i64 (M + 1 + 1 + 1)) (.int .i64 (M + 1 + 1 + 1 + 1)) (.bool ((M + 1 + 1 + 1 + 1 + 1) % 3 == 0)) (by rw [HS.out]; omega)
        have H1 := Lib.hid hc'
        have H2 := Lib.hid hs'
        have H3 := Lib.hid ht'
        have H4 := Lib.hid (kp_store6 (o := k * 6) hkp (.bool (M % 3 == 0)) (.int .i64 (M + 1)) (.int .i64 (M + 1 + 1)) (.int .i64 (M + 1 + 1 + 1)) (.int .i64 (M + 1 + 1 + 1 + 1)) (.bool ((M + 1 + 1 + 1 + 1 + 1) % 3 == 0)))
        clear hc' hs' ht'
        go_wp2
        go_roundw
        case rel => exact ⟨k + 1, _, cur', by omega, by go_num, rfl, by have := HM.out; omega, H1.out, H2.out.trans HS.out, by rw [Nat.add_mul, Nat.one_mul, H3.out, HT.out, mkNts_succ, ← HM.out, mkNt_cells], H4.out⟩
        case measure => simp [intOf]; omega
      · clear hcur
        go_wp2
        go_ret
        have hke : k = n := by omega
        subst hke
        exact ⟨ret_int HM.out, ⟨by rw [cellsOf_len Nt.cells 6 Nt.cells_len, mkNts_len], .inr ⟨g, cap, cur, rfl, hbg, HC.out, hnc, by unfold maxLen; omega, HS.out, HT.out⟩⟩, hkp⟩
theorem c_heldNoteS (v : Value) (n : Nat) (m : Int) (w : World) (h : Rd w v 6 n (ntCells (mkNts m n))) (hn : n ≤ 1048576) (hm0 : 0 ≤ m) (hm1 : m ≤ 1000000000) :
    Calls Tryd.prog 31 #[v, .int .i64 m] w fun e w' => e = .returned (.int .i64 (m + 6 * n)) ∧ w = w' := by
  obtain ⟨_, A, c, rfl, hnc, hcm, hA⟩ := h
  unfold maxLen at hcm
  go_enter Tryd.func31, Tryd.ntmps31
  go_wp2
  go_loop [1, 5] (fun t i => ∃ (k : Nat) (M : Int), k ≤ n ∧ i = .int .i64 k ∧ t = .int .i64 M ∧ M = m + 6 * k) (fun _ i => n - (intOf i).toNat)
  case atStart => exact ⟨0, m, Nat.zero_le _, rfl, rfl, by simp⟩
  case round =>
    obtain ⟨k, M, hk, rfl, rfl, hM⟩ := hrel
    have M0 : 0 ≤ M := by omega
    have M1 : M ≤ 1000000000 + 6 * 1048576 := by omega
    have HM := Lib.hid hM
    clear hM
    by_cases hlt : k < n
    · obtain ⟨b, off, rfl, hcc⟩ := hA (by omega)
      obtain ⟨c0, c1, c2, c3, c4, c5⟩ := nt_at hcc k (by rw [mkNts_len]; exact hlt)
      rw [mkNts_get, ← HM.out] at c0 c1 c2 c3 c4 c5
      simp only [mkNt] at c0 c1 c2 c3 c4 c5
      rw [show M + 5 = M + 1 + 1 + 1 + 1 + 1 by omega] at c5
      clear hA hcc
      go_wp2
      go_round
      case rel => exact ⟨k + 1, _, by omega, by go_num, rfl, by have := HM.out; omega⟩
      case measure => simp [intOf]; omega
    · clear hA
      go_wp2
      go_ret
      have hke : k = n := by omega
      subst hke
      exact ⟨ret_int HM.out, rfl⟩
end Go.Proofs.YtaikcpidijekpaaDoor
