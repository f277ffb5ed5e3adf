/- The pitch with a text: the spec's side. Conditions: none. -/
import Derived.Test.YtaikcpidijekpaaDoorTP
namespace Go.Proofs.YtaikcpidijekpaaDoor
open Go.RowKit
set_option linter.unusedSimpArgs false
set_option linter.unusedVariables false
set_option maxHeartbeats 4000000
set_option maxRecDepth 100000
def stepAt (x : UInt8) : Nat → Int
  | 0 => -1
  | k + 1 => if letters.getD k 0 = x then (k : Int) else stepAt x k
def altAt (l : List UInt8) : Nat → Int
  | 0 => 0
  | k + 1 => if l.getD (k + 1) 0 = 35 then altAt l k + 1 else if l.getD (k + 1) 0 = 98 then altAt l k - 1 else altAt l k
def octAt (l : List UInt8) : Nat → Int
  | 0 => 0
  | k + 1 => if l.getD (k + 1) 0 = 35 then octAt l k else if l.getD (k + 1) 0 = 98 then octAt l k else ((l.getD (k + 1) 0).toNat : Int) - 48
def sP (l : List UInt8) : Pit := ⟨stepAt (l.getD 0 0) 7, altAt l (min (l.length - 1) 4), octAt l (min (l.length - 1) 4)⟩
theorem sP_all : ∀ (s : Fin 7) (a : Fin 5) (o : Fin 9), (sP (pitT ⟨(s.val : Int), (a.val : Int) - 2, (o.val : Int)⟩)).step = s.val ∧ (sP (pitT ⟨(s.val : Int), (a.val : Int) - 2, (o.val : Int)⟩)).alter = (a.val : Int) - 2 ∧ (sP (pitT ⟨(s.val : Int), (a.val : Int) - 2, (o.val : Int)⟩)).octave = o.val := by decide +kernel
theorem sP_pit {p : Pit} (h : pitchValid p = true) : sP (pitT p) = p := by
  obtain ⟨s, a, o⟩ := p
  obtain ⟨h1, h2, h3, h4, h5, h6⟩ := pitchValid_iff.1 h
  dsimp only at h1 h2 h3 h4 h5 h6
  have := sP_all ⟨s.toNat, by omega⟩ ⟨(a + 2).toNat, by omega⟩ ⟨o.toNat, by omega⟩
  dsimp only at this
  rw [show ((s.toNat : Nat) : Int) = s by omega, show (((a + 2).toNat : Nat) : Int) - 2 = a by omega, show ((o.toNat : Nat) : Int) = o by omega] at this
  obtain ⟨e1, e2, e3⟩ := this
  generalize sP (pitT ⟨s, a, o⟩) = q at *
  obtain ⟨qs, qa, qo⟩ := q
  dsimp only at e1 e2 e3
  rw [e1, e2, e3]
theorem altAt_bd (l : List UInt8) (k : Nat) : -(k : Int) ≤ altAt l k ∧ altAt l k ≤ k := by
  induction k with
  | zero => exact ⟨by simp [altAt], by simp [altAt]⟩
  | succ k ih =>
    unfold altAt
    split
    · omega
    · split <;> omega
theorem octAt_bd (l : List UInt8) (k : Nat) : -48 ≤ octAt l k ∧ octAt l k ≤ 255 := by
  induction k with
  | zero => exact ⟨by simp [octAt], by simp [octAt]⟩
  | succ k ih =>
    unfold octAt
    have := (l.getD (k + 1) 0).toNat_lt
    split
    · exact ih
    · split
      · exact ih
      · omega
theorem stepAt_bd (x : UInt8) (k : Nat) : -1 ≤ stepAt x k ∧ stepAt x k ≤ k := by
  induction k with
  | zero => exact ⟨by simp [stepAt], by simp [stepAt]⟩
  | succ k ih => unfold stepAt; split <;> omega
theorem altAt_s (l : List UInt8) (k : Nat) (h : 0 < k) : altAt l k = if l.getD k 0 = 35 then altAt l (k - 1) + 1 else if l.getD k 0 = 98 then altAt l (k - 1) - 1 else altAt l (k - 1) := by
  obtain ⟨j, rfl⟩ : ∃ j, k = j + 1 := ⟨k - 1, by omega⟩
  rfl
theorem octAt_s (l : List UInt8) (k : Nat) (h : 0 < k) : octAt l k = if l.getD k 0 = 35 then octAt l (k - 1) else if l.getD k 0 = 98 then octAt l (k - 1) else ((l.getD k 0).toNat : Int) - 48 := by
  obtain ⟨j, rfl⟩ : ∃ j, k = j + 1 := ⟨k - 1, by omega⟩
  rfl
theorem u8_ne {a b : UInt8} (h : ¬ a = b) : ¬ ((a.toNat : Int) = (b.toNat : Int)) := fun e => h (UInt8.toNat_inj.1 (by omega))
theorem mk_get (l : List UInt8) (k : Nat) (h : k < (ByteArray.mk l.toArray).size) : (ByteArray.mk l.toArray)[k]'h = l.getD k 0 := by
  have h' : k < l.length := by simpa [ByteArray.size] using h
  rw [List.getD_eq_getElem?_getD, List.getElem?_eq_getElem h']
  rfl
theorem c_sReadPitch (l : List UInt8) (w : World) (hl : l.length ≤ 2000000) :
    Calls Tryd.prog 48 #[.string ⟨l.toArray⟩] w (RetP (rdP l) w) := by
  by_cases h0 : l = []
  · subst h0
    have HX := Lib.hid (rdP_no (l := []) (fun p hp h => pitT_ne hp h))
    go_enter Tryd.func48, Tryd.ntmps48
    go_wp2_with fail
    go_loop [5] (fun s5 => s5 = .int .i64 0) (fun _ => 0)
    case atStart => rfl
    case round =>
      subst hrel
      go_wp2_with fail
      go_loop [6] (fun s6 => s6 = .int .i64 1) (fun _ => 0)
      case atStart => rfl
      case round =>
        subst hrel
        go_wp2_with fail
        trace_state
        exact bodyPost_ret (v := .tuple #[.agg #[.int .i64 0, .int .i64 0, .int .i64 0], .bool false]) (by simp [results, Tryd.results48, go_sem, *]) rfl ⟨by rw [HX.out], by (repeat' (first | (with_reducible exact Below.refl _ _) | (with_reducible refine Below.setCell ?_ ?_ _) | (with_reducible refine Below.alloc ?_ ?_ _) | (with_reducible refine Below.drew ?_) | (with_reducible refine below_drewN ?_ _) | (with_reducible refine Below.trans ?_ (Below.mono (by with_reducible assumption) ?_)) | omega | (simp only [size_alloc', size_setCell', size_drew', size_drewN'] at *; omega)))⟩
  · obtain ⟨x, r, rfl⟩ : ∃ x r, l = x :: r := by cases l with | nil => exact absurd rfl h0 | cons x r => exact ⟨x, r, rfl⟩
    clear h0
    have hx0 : ¬ ((x :: r) = ([] : List UInt8)) := by simp
    have hx1 : ((x :: r) == ([] : List UInt8)) = false := rfl
    go_enter Tryd.func48, Tryd.ntmps48
    go_wp2_with fail
    go_loopw [5] (fun s5 wr => ∃ k : Nat, k ≤ 7 ∧ s5 = .int .i64 k ∧ wr.heap[w.heap.size + 1]? = some (.cells #[.int .i64 (stepAt x k), .int .i64 0, .int .i64 0] 27 (0, 0)) ∧ wr.heap[w.heap.size]? = some (.cells #[.int .i64 0, .int .i64 0, .int .i64 0] 27 (0, 0)) ∧ Below w.heap.size w wr) (fun s5 _ => 7 - (intOf s5).toNat)
    case atStart => exact ⟨0, by decide, rfl, by (simp only [heap_alloc_get, heap_setCell_get, heap_drew_get, heap_drewN_get, size_alloc', size_setCell', size_drew', size_drewN', nat_simp1, nat_simp2, nat_simp3, nat_simp4, nat_simp5, if_true, if_false, Option.map_some, *]; first | done | rfl | simp), by (simp only [heap_alloc_get, heap_setCell_get, heap_drew_get, heap_drewN_get, size_alloc', size_setCell', size_drew', size_drewN', nat_simp1, nat_simp2, nat_simp3, nat_simp4, nat_simp5, if_true, if_false, Option.map_some, *]; first | done | rfl | simp), by (repeat' (first | (with_reducible exact Below.refl _ _) | (with_reducible refine Below.setCell ?_ ?_ _) | (with_reducible refine Below.alloc ?_ ?_ _) | (with_reducible refine Below.drew ?_) | (with_reducible refine below_drewN ?_ _) | (with_reducible refine Below.trans ?_ (Below.mono (by with_reducible assumption) ?_)) | omega | (simp only [size_alloc', size_setCell', size_drew', size_drewN'] at *; omega)))⟩
    case round =>
      obtain ⟨k, hk, rfl, hp1, hp2, hbl⟩ := hrel
      obtain ⟨_, _⟩ := blk_facts hp1
      obtain ⟨_, _⟩ := blk_facts hp2
      by_cases h7 : k < 7
      · have h7' : (k : Int) < 7 := by omega
        have hgk : ∀ h, (ByteArray.mk #[67, 68, 69, 70, 71, 65, 66])[k]'h = letters.getD k 0 := fun h => mk_get letters k h
        have hg0 : ∀ h, (ByteArray.mk (x :: r).toArray)[0]'h = x := fun h => mk_get (x :: r) 0 h
        have HS := Lib.hid (show stepAt x (k + 1) = if letters.getD k 0 = x then (k : Int) else stepAt x k from rfl)
        generalize letters.getD k 0 = c at *
        by_cases hcx : c = x
        · subst hcx
          rw [if_pos rfl] at HS
          have h4 : (wr.setCell ⟨w.heap.size + 1, 0, none⟩ (.int .i64 k)).heap[w.heap.size + 1]? = some (.cells #[.int .i64 k, .int .i64 0, .int .i64 0] 27 (0, 0)) := by (simp only [heap_alloc_get, heap_setCell_get, heap_drew_get, heap_drewN_get, size_alloc', size_setCell', size_drew', size_drewN', nat_simp1, nat_simp2, nat_simp3, nat_simp4, nat_simp5, if_true, if_false, Option.map_some, *]; first | done | rfl | simp)
          have h5 : (wr.setCell ⟨w.heap.size + 1, 0, none⟩ (.int .i64 k)).heap[w.heap.size]? = some (.cells #[.int .i64 0, .int .i64 0, .int .i64 0] 27 (0, 0)) := by (simp only [heap_alloc_get, heap_setCell_get, heap_drew_get, heap_drewN_get, size_alloc', size_setCell', size_drew', size_drewN', nat_simp1, nat_simp2, nat_simp3, nat_simp4, nat_simp5, if_true, if_false, Option.map_some, *]; first | done | rfl | simp)
          go_wp2_with fail
          go_quiet (fail)
          go_wp2_with fail
          go_roundw
          case rel => exact ⟨k + 1, by omega, by go_num, by rw [HS.out]; exact h4, h5, by (repeat' (first | (with_reducible exact Below.refl _ _) | (with_reducible refine Below.setCell ?_ ?_ _) | (with_reducible refine Below.alloc ?_ ?_ _) | (with_reducible refine Below.drew ?_) | (with_reducible refine below_drewN ?_ _) | (with_reducible refine Below.trans ?_ (Below.mono (by with_reducible assumption) ?_)) | omega | (simp only [size_alloc', size_setCell', size_drew', size_drewN'] at *; omega)))⟩
          case measure => simp [intOf]; omega
        · have hne := u8_ne hcx
          rw [if_neg hcx] at HS
          go_wp2_with fail
          go_quiet (fail)
          go_wp2_with fail
          go_roundw
          case rel => exact ⟨k + 1, by omega, by go_num, by rw [HS.out]; exact hp1, hp2, by (repeat' (first | (with_reducible exact Below.refl _ _) | (with_reducible refine Below.setCell ?_ ?_ _) | (with_reducible refine Below.alloc ?_ ?_ _) | (with_reducible refine Below.drew ?_) | (with_reducible refine below_drewN ?_ _) | (with_reducible refine Below.trans ?_ (Below.mono (by with_reducible assumption) ?_)) | omega | (simp only [size_alloc', size_setCell', size_drew', size_drewN'] at *; omega)))⟩
          case measure => simp [intOf]; omega
      · have h7' : ¬ (k : Int) < 7 := by omega
        obtain rfl : k = 7 := by omega
        have HSP := Lib.hid (show sP (x :: r) = ⟨stepAt x 7, altAt (x :: r) (min r.length 4), octAt (x :: r) (min r.length 4)⟩ from rfl)
        have hsb := stepAt_bd x 7
        generalize stepAt x 7 = s7 at *
        go_wp2_with fail
        go_loopw [6] (fun s6 w3 => ∃ k : Nat, 1 ≤ k ∧ k ≤ 5 ∧ k ≤ r.length + 1 ∧ s6 = .int .i64 k ∧ w3.heap[w.heap.size + 1]? = some (.cells #[.int .i64 s7, .int .i64 (altAt (x :: r) (k - 1)), .int .i64 (octAt (x :: r) (k - 1))] 27 (0, 0)) ∧ w3.heap[w.heap.size]? = some (.cells #[.int .i64 0, .int .i64 0, .int .i64 0] 27 (0, 0)) ∧ Below w.heap.size w w3) (fun s6 _ => 5 - (intOf s6).toNat)
        case atStart => exact ⟨1, by decide, by decide, by omega, rfl, hp1, hp2, hbl⟩
        case round =>
          clear hp1 hp2 hbl
          obtain ⟨k, hk1, hk5, hkr, rfl, hp1, hp2, hbl⟩ := hrel
          obtain ⟨_, _⟩ := blk_facts hp1
          obtain ⟨_, _⟩ := blk_facts hp2
          have ha := altAt_bd (x :: r) (k - 1)
          have ho := octAt_bd (x :: r) (k - 1)
          by_cases hlt : k < r.length + 1
          · have hlt' : (k : Int) < (r.length : Int) + 1 := by omega
            by_cases h5 : k < 5
            · have h5' : (k : Int) < 5 := by omega
              have hgk : ∀ h, (ByteArray.mk (x :: r).toArray)[k]'h = (x :: r).getD k 0 := fun h => mk_get (x :: r) k h
              have HAL := Lib.hid (altAt_s (x :: r) k (by omega))
              have HOC := Lib.hid (octAt_s (x :: r) k (by omega))
              generalize (x :: r).getD k 0 = c at *
              generalize altAt (x :: r) (k - 1) = a at *
              generalize octAt (x :: r) (k - 1) = o at *
              have hcb := c.toNat_lt
              by_cases e1 : c = 35
              · subst e1
                rw [if_pos rfl] at HAL HOC
                have h3 : (wr.setCell ⟨w.heap.size + 1, 1, none⟩ (.int .i64 (a + 1))).heap[w.heap.size + 1]? = some (.cells #[.int .i64 s7, .int .i64 (a + 1), .int .i64 o] 27 (0, 0)) := by (simp only [heap_alloc_get, heap_setCell_get, heap_drew_get, heap_drewN_get, size_alloc', size_setCell', size_drew', size_drewN', nat_simp1, nat_simp2, nat_simp3, nat_simp4, nat_simp5, if_true, if_false, Option.map_some, *]; first | done | rfl | simp)
                have h4 : (wr.setCell ⟨w.heap.size + 1, 1, none⟩ (.int .i64 (a + 1))).heap[w.heap.size]? = some (.cells #[.int .i64 0, .int .i64 0, .int .i64 0] 27 (0, 0)) := by (simp only [heap_alloc_get, heap_setCell_get, heap_drew_get, heap_drewN_get, size_alloc', size_setCell', size_drew', size_drewN', nat_simp1, nat_simp2, nat_simp3, nat_simp4, nat_simp5, if_true, if_false, Option.map_some, *]; first | done | rfl | simp)
                go_wp2_with fail
                go_roundw
                case rel => exact ⟨k + 1, by omega, by omega, by omega, by go_num, by rw [Nat.add_sub_cancel, HAL.out, HOC.out]; exact h3, h4, by (repeat' (first | (with_reducible exact Below.refl _ _) | (with_reducible refine Below.setCell ?_ ?_ _) | (with_reducible refine Below.alloc ?_ ?_ _) | (with_reducible refine Below.drew ?_) | (with_reducible refine below_drewN ?_ _) | (with_reducible refine Below.trans ?_ (Below.mono (by with_reducible assumption) ?_)) | omega | (simp only [size_alloc', size_setCell', size_drew', size_drewN'] at *; omega)))⟩
                case measure => simp [intOf]; omega
              · have e1' : ¬ (c.toNat : Int) = 35 := u8_ne e1
                rw [if_neg e1] at HAL HOC
                by_cases e2 : c = 98
                · subst e2
                  rw [if_pos rfl] at HAL HOC
                  have h3 : (wr.setCell ⟨w.heap.size + 1, 1, none⟩ (.int .i64 (a - 1))).heap[w.heap.size + 1]? = some (.cells #[.int .i64 s7, .int .i64 (a - 1), .int .i64 o] 27 (0, 0)) := by (simp only [heap_alloc_get, heap_setCell_get, heap_drew_get, heap_drewN_get, size_alloc', size_setCell', size_drew', size_drewN', nat_simp1, nat_simp2, nat_simp3, nat_simp4, nat_simp5, if_true, if_false, Option.map_some, *]; first | done | rfl | simp)
                  have h4 : (wr.setCell ⟨w.heap.size + 1, 1, none⟩ (.int .i64 (a - 1))).heap[w.heap.size]? = some (.cells #[.int .i64 0, .int .i64 0, .int .i64 0] 27 (0, 0)) := by (simp only [heap_alloc_get, heap_setCell_get, heap_drew_get, heap_drewN_get, size_alloc', size_setCell', size_drew', size_drewN', nat_simp1, nat_simp2, nat_simp3, nat_simp4, nat_simp5, if_true, if_false, Option.map_some, *]; first | done | rfl | simp)
                  go_wp2_with fail
                  go_roundw
                  case rel => exact ⟨k + 1, by omega, by omega, by omega, by go_num, by rw [Nat.add_sub_cancel, HAL.out, HOC.out]; exact h3, h4, by (repeat' (first | (with_reducible exact Below.refl _ _) | (with_reducible refine Below.setCell ?_ ?_ _) | (with_reducible refine Below.alloc ?_ ?_ _) | (with_reducible refine Below.drew ?_) | (with_reducible refine below_drewN ?_ _) | (with_reducible refine Below.trans ?_ (Below.mono (by with_reducible assumption) ?_)) | omega | (simp only [size_alloc', size_setCell', size_drew', size_drewN'] at *; omega)))⟩
                  case measure => simp [intOf]; omega
                · have e2' : ¬ (c.toNat : Int) = 98 := u8_ne e2
                  rw [if_neg e2] at HAL HOC
                  have h3 : (wr.setCell ⟨w.heap.size + 1, 2, none⟩ (.int .i64 ((c.toNat : Int) - 48))).heap[w.heap.size + 1]? = some (.cells #[.int .i64 s7, .int .i64 a, .int .i64 ((c.toNat : Int) - 48)] 27 (0, 0)) := by (simp only [heap_alloc_get, heap_setCell_get, heap_drew_get, heap_drewN_get, size_alloc', size_setCell', size_drew', size_drewN', nat_simp1, nat_simp2, nat_simp3, nat_simp4, nat_simp5, if_true, if_false, Option.map_some, *]; first | done | rfl | simp)
                  have h4 : (wr.setCell ⟨w.heap.size + 1, 2, none⟩ (.int .i64 ((c.toNat : Int) - 48))).heap[w.heap.size]? = some (.cells #[.int .i64 0, .int .i64 0, .int .i64 0] 27 (0, 0)) := by (simp only [heap_alloc_get, heap_setCell_get, heap_drew_get, heap_drewN_get, size_alloc', size_setCell', size_drew', size_drewN', nat_simp1, nat_simp2, nat_simp3, nat_simp4, nat_simp5, if_true, if_false, Option.map_some, *]; first | done | rfl | simp)
                  go_wp2_with fail
                  go_roundw
                  case rel => exact ⟨k + 1, by omega, by omega, by omega, by go_num, by rw [Nat.add_sub_cancel, HAL.out, HOC.out]; exact h3, h4, by (repeat' (first | (with_reducible exact Below.refl _ _) | (with_reducible refine Below.setCell ?_ ?_ _) | (with_reducible refine Below.alloc ?_ ?_ _) | (with_reducible refine Below.drew ?_) | (with_reducible refine below_drewN ?_ _) | (with_reducible refine Below.trans ?_ (Below.mono (by with_reducible assumption) ?_)) | omega | (simp only [size_alloc', size_setCell', size_drew', size_drewN'] at *; omega)))⟩
                  case measure => simp [intOf]; omega
            · have h5' : ¬ (k : Int) < 5 := by omega
              generalize ea : altAt (x :: r) (k - 1) = a at *
              generalize eo : octAt (x :: r) (k - 1) = o at *
              have HSQ := Lib.hid (show sP (x :: r) = ⟨s7, a, o⟩ by rw [HSP.out, show min r.length 4 = k - 1 by omega, ea, eo])
              clear ea eo
              have hzz : w.heap.size + 1 < wr.heap.size := (Array.getElem?_eq_some_iff.1 hp1).1
              go_wp2_with fail
              by_cases hE : pitT ⟨s7, a, o⟩ = x :: r
              · have HE := Lib.hid (rdP_yes hE (by simp))
                have HQ := Lib.hid (fun W => c_sPitchText ⟨s7, a, o⟩ W)
                rw [hE] at HQ
                (go_at_call 32; (with_reducible refine (HQ.out _).mono ?_); rintro e w5 ⟨rfl, hbq⟩; have hzq := hbq.size; (try simp only [size_alloc', size_setCell', size_drew', size_drewN'] at hzq); (try (refine keep_heap (b := w.heap.size) hbq ?_ ?_; (first | omega | (simp only [size_alloc', size_setCell', size_drew', size_drewN']; omega)); intro hkq; simp only [heap_alloc_get, heap_setCell_get, heap_drew_get, heap_drewN_get, size_alloc', size_setCell', size_drew', size_drewN', nat_simp1, nat_simp2, nat_simp3, nat_simp4, nat_simp5, if_true, if_false, *] at hkq; obtain ⟨_, _⟩ := blk_facts hkq)); (try (refine keep_heap (b := w.heap.size + 1) hbq ?_ ?_; (first | omega | (simp only [size_alloc', size_setCell', size_drew', size_drewN']; omega)); intro hkq; simp only [heap_alloc_get, heap_setCell_get, heap_drew_get, heap_drewN_get, size_alloc', size_setCell', size_drew', size_drewN', nat_simp1, nat_simp2, nat_simp3, nat_simp4, nat_simp5, if_true, if_false, *] at hkq; obtain ⟨_, _⟩ := blk_facts hkq)); skip)
                go_wp2_with fail
                have h5 : (((w5.setCell ⟨w.heap.size, 0, none⟩ (.int .i64 s7)).setCell ⟨w.heap.size, 1, none⟩ (.int .i64 a)).setCell ⟨w.heap.size, 2, none⟩ (.int .i64 o)).heap[w.heap.size]? = some (.cells #[.int .i64 s7, .int .i64 a, .int .i64 o] 27 (0, 0)) := by (simp only [heap_alloc_get, heap_setCell_get, heap_drew_get, heap_drewN_get, size_alloc', size_setCell', size_drew', size_drewN', nat_simp1, nat_simp2, nat_simp3, nat_simp4, nat_simp5, if_true, if_false, Option.map_some, *]; first | done | rfl | simp)
                obtain ⟨h6, _⟩ := blk_facts h5
                exact bodyPost_ret (v := .tuple #[.agg #[.int .i64 s7, .int .i64 a, .int .i64 o], .bool true]) (by simp [results, Tryd.results48, go_sem, *]) rfl ⟨by rw [HE.out], by (repeat' (first | (with_reducible exact Below.refl _ _) | (with_reducible refine Below.setCell ?_ ?_ _) | (with_reducible refine Below.alloc ?_ ?_ _) | (with_reducible refine Below.drew ?_) | (with_reducible refine below_drewN ?_ _) | (with_reducible refine Below.trans ?_ (Below.mono (by with_reducible assumption) ?_)) | omega | (simp only [size_alloc', size_setCell', size_drew', size_drewN'] at *; omega)))⟩
              · have HE := Lib.hid (rdP_no (l := x :: r) (fun p hp h => hE (by rw [← HSQ.out, ← h, sP_pit hp])))
                have HQ := Lib.hid (fun W => c_sPitchText ⟨s7, a, o⟩ W)
                generalize pitT ⟨s7, a, o⟩ = q at *
                have hne : (q == x :: r) = false := beq_eq_false_iff_ne.2 hE
                (go_at_call 32; (with_reducible refine (HQ.out _).mono ?_); rintro e w5 ⟨rfl, hbq⟩; have hzq := hbq.size; (try simp only [size_alloc', size_setCell', size_drew', size_drewN'] at hzq); (try (refine keep_heap (b := w.heap.size) hbq ?_ ?_; (first | omega | (simp only [size_alloc', size_setCell', size_drew', size_drewN']; omega)); intro hkq; simp only [heap_alloc_get, heap_setCell_get, heap_drew_get, heap_drewN_get, size_alloc', size_setCell', size_drew', size_drewN', nat_simp1, nat_simp2, nat_simp3, nat_simp4, nat_simp5, if_true, if_false, *] at hkq; obtain ⟨_, _⟩ := blk_facts hkq)); (try (refine keep_heap (b := w.heap.size + 1) hbq ?_ ?_; (first | omega | (simp only [size_alloc', size_setCell', size_drew', size_drewN']; omega)); intro hkq; simp only [heap_alloc_get, heap_setCell_get, heap_drew_get, heap_drewN_get, size_alloc', size_setCell', size_drew', size_drewN', nat_simp1, nat_simp2, nat_simp3, nat_simp4, nat_simp5, if_true, if_false, *] at hkq; obtain ⟨_, _⟩ := blk_facts hkq)); skip)
                go_wp2_with fail
                have h5 : (((w5.setCell ⟨w.heap.size, 0, none⟩ (.int .i64 0)).setCell ⟨w.heap.size, 1, none⟩ (.int .i64 0)).setCell ⟨w.heap.size, 2, none⟩ (.int .i64 0)).heap[w.heap.size]? = some (.cells #[.int .i64 0, .int .i64 0, .int .i64 0] 27 (0, 0)) := by (simp only [heap_alloc_get, heap_setCell_get, heap_drew_get, heap_drewN_get, size_alloc', size_setCell', size_drew', size_drewN', nat_simp1, nat_simp2, nat_simp3, nat_simp4, nat_simp5, if_true, if_false, Option.map_some, *]; first | done | rfl | simp)
                obtain ⟨h6, _⟩ := blk_facts h5
                exact bodyPost_ret (v := .tuple #[.agg #[.int .i64 0, .int .i64 0, .int .i64 0], .bool false]) (by simp [results, Tryd.results48, go_sem, *]) rfl ⟨by rw [HE.out], by (repeat' (first | (with_reducible exact Below.refl _ _) | (with_reducible refine Below.setCell ?_ ?_ _) | (with_reducible refine Below.alloc ?_ ?_ _) | (with_reducible refine Below.drew ?_) | (with_reducible refine below_drewN ?_ _) | (with_reducible refine Below.trans ?_ (Below.mono (by with_reducible assumption) ?_)) | omega | (simp only [size_alloc', size_setCell', size_drew', size_drewN'] at *; omega)))⟩
          · have hlt' : ¬ (k : Int) < (r.length : Int) + 1 := by omega
            generalize ea : altAt (x :: r) (k - 1) = a at *
            generalize eo : octAt (x :: r) (k - 1) = o at *
            have HSQ := Lib.hid (show sP (x :: r) = ⟨s7, a, o⟩ by rw [HSP.out, show min r.length 4 = k - 1 by omega, ea, eo])
            clear ea eo
            have hzz : w.heap.size + 1 < wr.heap.size := (Array.getElem?_eq_some_iff.1 hp1).1
            go_wp2_with fail
            by_cases hE : pitT ⟨s7, a, o⟩ = x :: r
            · have HE := Lib.hid (rdP_yes hE (by simp))
              have HQ := Lib.hid (fun W => c_sPitchText ⟨s7, a, o⟩ W)
              rw [hE] at HQ
              (go_at_call 32; (with_reducible refine (HQ.out _).mono ?_); rintro e w5 ⟨rfl, hbq⟩; have hzq := hbq.size; (try simp only [size_alloc', size_setCell', size_drew', size_drewN'] at hzq); (try (refine keep_heap (b := w.heap.size) hbq ?_ ?_; (first | omega | (simp only [size_alloc', size_setCell', size_drew', size_drewN']; omega)); intro hkq; simp only [heap_alloc_get, heap_setCell_get, heap_drew_get, heap_drewN_get, size_alloc', size_setCell', size_drew', size_drewN', nat_simp1, nat_simp2, nat_simp3, nat_simp4, nat_simp5, if_true, if_false, *] at hkq; obtain ⟨_, _⟩ := blk_facts hkq)); (try (refine keep_heap (b := w.heap.size + 1) hbq ?_ ?_; (first | omega | (simp only [size_alloc', size_setCell', size_drew', size_drewN']; omega)); intro hkq; simp only [heap_alloc_get, heap_setCell_get, heap_drew_get, heap_drewN_get, size_alloc', size_setCell', size_drew', size_drewN', nat_simp1, nat_simp2, nat_simp3, nat_simp4, nat_simp5, if_true, if_false, *] at hkq; obtain ⟨_, _⟩ := blk_facts hkq)); skip)
              go_wp2_with fail
              have h5 : (((w5.setCell ⟨w.heap.size, 0, none⟩ (.int .i64 s7)).setCell ⟨w.heap.size, 1, none⟩ (.int .i64 a)).setCell ⟨w.heap.size, 2, none⟩ (.int .i64 o)).heap[w.heap.size]? = some (.cells #[.int .i64 s7, .int .i64 a, .int .i64 o] 27 (0, 0)) := by (simp only [heap_alloc_get, heap_setCell_get, heap_drew_get, heap_drewN_get, size_alloc', size_setCell', size_drew', size_drewN', nat_simp1, nat_simp2, nat_simp3, nat_simp4, nat_simp5, if_true, if_false, Option.map_some, *]; first | done | rfl | simp)
              obtain ⟨h6, _⟩ := blk_facts h5
              exact bodyPost_ret (v := .tuple #[.agg #[.int .i64 s7, .int .i64 a, .int .i64 o], .bool true]) (by simp [results, Tryd.results48, go_sem, *]) rfl ⟨by rw [HE.out], by (repeat' (first | (with_reducible exact Below.refl _ _) | (with_reducible refine Below.setCell ?_ ?_ _) | (with_reducible refine Below.alloc ?_ ?_ _) | (with_reducible refine Below.drew ?_) | (with_reducible refine below_drewN ?_ _) | (with_reducible refine Below.trans ?_ (Below.mono (by with_reducible assumption) ?_)) | omega | (simp only [size_alloc', size_setCell', size_drew', size_drewN'] at *; omega)))⟩
            · have HE := Lib.hid (rdP_no (l := x :: r) (fun p hp h => hE (by rw [← HSQ.out, ← h, sP_pit hp])))
              have HQ := Lib.hid (fun W => c_sPitchText ⟨s7, a, o⟩ W)
              generalize pitT ⟨s7, a, o⟩ = q at *
              have hne : (q == x :: r) = false := beq_eq_false_iff_ne.2 hE
              (go_at_call 32; (with_reducible refine (HQ.out _).mono ?_); rintro e w5 ⟨rfl, hbq⟩; have hzq := hbq.size; (try simp only [size_alloc', size_setCell', size_drew', size_drewN'] at hzq); (try (refine keep_heap (b := w.heap.size) hbq ?_ ?_; (first | omega | (simp only [size_alloc', size_setCell', size_drew', size_drewN']; omega)); intro hkq; simp only [heap_alloc_get, heap_setCell_get, heap_drew_get, heap_drewN_get, size_alloc', size_setCell', size_drew', size_drewN', nat_simp1, nat_simp2, nat_simp3, nat_simp4, nat_simp5, if_true, if_false, *] at hkq; obtain ⟨_, _⟩ := blk_facts hkq)); (try (refine keep_heap (b := w.heap.size + 1) hbq ?_ ?_; (first | omega | (simp only [size_alloc', size_setCell', size_drew', size_drewN']; omega)); intro hkq; simp only [heap_alloc_get, heap_setCell_get, heap_drew_get, heap_drewN_get, size_alloc', size_setCell', size_drew', size_drewN', nat_simp1, nat_simp2, nat_simp3, nat_simp4, nat_simp5, if_true, if_false, *] at hkq; obtain ⟨_, _⟩ := blk_facts hkq)); skip)
              go_wp2_with fail
              have h5 : (((w5.setCell ⟨w.heap.size, 0, none⟩ (.int .i64 0)).setCell ⟨w.heap.size, 1, none⟩ (.int .i64 0)).setCell ⟨w.heap.size, 2, none⟩ (.int .i64 0)).heap[w.heap.size]? = some (.cells #[.int .i64 0, .int .i64 0, .int .i64 0] 27 (0, 0)) := by (simp only [heap_alloc_get, heap_setCell_get, heap_drew_get, heap_drewN_get, size_alloc', size_setCell', size_drew', size_drewN', nat_simp1, nat_simp2, nat_simp3, nat_simp4, nat_simp5, if_true, if_false, Option.map_some, *]; first | done | rfl | simp)
              obtain ⟨h6, _⟩ := blk_facts h5
              exact bodyPost_ret (v := .tuple #[.agg #[.int .i64 0, .int .i64 0, .int .i64 0], .bool false]) (by simp [results, Tryd.results48, go_sem, *]) rfl ⟨by rw [HE.out], by (repeat' (first | (with_reducible exact Below.refl _ _) | (with_reducible refine Below.setCell ?_ ?_ _) | (with_reducible refine Below.alloc ?_ ?_ _) | (with_reducible refine Below.drew ?_) | (with_reducible refine below_drewN ?_ _) | (with_reducible refine Below.trans ?_ (Below.mono (by with_reducible assumption) ?_)) | omega | (simp only [size_alloc', size_setCell', size_drew', size_drewN'] at *; omega)))⟩
end Go.Proofs.YtaikcpidijekpaaDoor
