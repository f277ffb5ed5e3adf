/- The texts of pitches: both sides. Conditions: none. -/
import Derived.Test.YtaikcpidijekpaaDoorB3
import Derived.Test.YtaikcpidijekpaaDoorST
import Derived.Test.YtaikcpidijekpaaDoorSH
import Derived.Lib.ItoaNum
import Derived.Lib.Repeat
namespace Go.Proofs.YtaikcpidijekpaaDoor
open Go.RowKit
set_option linter.unusedSimpArgs false
set_option linter.unusedVariables false
set_option maxHeartbeats 4000000
set_option maxRecDepth 100000
def letters : List UInt8 := [67, 68, 69, 70, 71, 65, 66]
def letT (s : Int) : UInt8 := letters.getD s.toNat 0
def pitT (p : Pit) : List UInt8 := if pitchValid p = true then letT p.step :: (List.replicate p.alter.toNat 35 ++ List.replicate (-p.alter).toNat 98 ++ [UInt8.ofNat (48 + p.octave.toNat)]) else []
theorem run_letter {P : Program} (t : TypeId) (h : P.underlying t = some .string) (s : Int) (h0 : 0 ≤ s) (h1 : s ≤ 6) (W : World) :
    (Instr.slice t (.string ⟨#[67, 68, 69, 70, 71, 65, 66]⟩) (some (.int .i64 s)) (some (.int .i64 (s + 1))) none).run P W = .ok (.string ⟨[letT s].toArray⟩) W := by
  rw [run_slice_string W t _ .i64 .i64 s (s + 1) h h0 (by omega) (by show s + 1 ≤ 7; omega)]
  rcases (show s = 0 ∨ s = 1 ∨ s = 2 ∨ s = 3 ∨ s = 4 ∨ s = 5 ∨ s = 6 by omega) with rfl | rfl | rfl | rfl | rfl | rfl | rfl <;> rfl
theorem run_add_snoc {P : Program} (out : List UInt8) (c : UInt8) (h : out.length ≤ 8000000) (W : World) : (Op.stringOp .add ⟨out.toArray⟩ ⟨#[c]⟩).run P W = .ok (.string ⟨(out ++ [c]).toArray⟩) W :=
  run_string_add_lists W out [c] (by omega) (by simp)
theorem c_sPitchText (p : Pit) (w : World) :
    Calls Tryd.prog 32 #[p.v] w fun e w' => e = .returned (.string ⟨(pitT p).toArray⟩) ∧ Below w.heap.size w w' := by
  obtain ⟨s, a, o⟩ := p
  cases hv : pitchValid ⟨s, a, o⟩
  · have HT := Lib.hid (show pitT ⟨s, a, o⟩ = [] by unfold pitT; rw [hv]; rfl)
    go_enter Tryd.func32, Tryd.ntmps32
    go_wp2_with (go_at_call 42; (with_reducible refine (c_sPitchValid ⟨s, a, o⟩ _).mono ?_); rintro e wq ⟨rfl, hbq⟩; have hzq := hbq.size; (try simp only [size_alloc', size_setCell', size_drew', size_drewN'] at hzq); (try (refine keep_heap (b := w.heap.size) hbq ?_ ?_; (first | omega | (simp only [size_alloc', size_setCell', size_drew', size_drewN']; omega)); intro hkq; simp only [heap_alloc_get, heap_setCell_get, heap_drew_get, heap_drewN_get, size_alloc', size_setCell', size_drew', size_drewN', nat_simp1, nat_simp2, nat_simp3, nat_simp4, nat_simp5, if_true, if_false, *] at hkq; obtain ⟨_, _⟩ := blk_facts hkq)); (try (refine keep_heap (b := w.heap.size + 1) hbq ?_ ?_; (first | omega | (simp only [size_alloc', size_setCell', size_drew', size_drewN']; omega)); intro hkq; simp only [heap_alloc_get, heap_setCell_get, heap_drew_get, heap_drewN_get, size_alloc', size_setCell', size_drew', size_drewN', nat_simp1, nat_simp2, nat_simp3, nat_simp4, nat_simp5, if_true, if_false, *] at hkq; obtain ⟨_, _⟩ := blk_facts hkq)); (try (refine keep_heap (b := w.heap.size + 1 + 1) hbq ?_ ?_; (first | omega | (simp only [size_alloc', size_setCell', size_drew', size_drewN']; omega)); intro hkq; simp only [heap_alloc_get, heap_setCell_get, heap_drew_get, heap_drewN_get, size_alloc', size_setCell', size_drew', size_drewN', nat_simp1, nat_simp2, nat_simp3, nat_simp4, nat_simp5, if_true, if_false, *] at hkq; obtain ⟨_, _⟩ := blk_facts hkq)); (try (refine keep_heap (b := w.heap.size + 1 + 1 + 1) hbq ?_ ?_; (first | omega | (simp only [size_alloc', size_setCell', size_drew', size_drewN']; omega)); intro hkq; simp only [heap_alloc_get, heap_setCell_get, heap_drew_get, heap_drewN_get, size_alloc', size_setCell', size_drew', size_drewN', nat_simp1, nat_simp2, nat_simp3, nat_simp4, nat_simp5, if_true, if_false, *] at hkq; obtain ⟨_, _⟩ := blk_facts hkq)); skip)
    go_ret
    exact ⟨by rw [HT.out]; rfl, by (repeat' (first | (with_reducible exact Below.refl _ _) | (with_reducible refine Below.setCell ?_ ?_ _) | (with_reducible refine Below.alloc ?_ ?_ _) | (with_reducible refine Below.drew ?_) | (with_reducible refine below_drewN ?_ _) | (with_reducible refine Below.trans ?_ (Below.mono (by with_reducible assumption) ?_)) | omega | (simp only [size_alloc', size_setCell', size_drew', size_drewN'] at *; omega)))⟩
  · obtain ⟨h1, h2, h3, h4, h5, h6⟩ := pitchValid_iff.1 hv
    dsimp only at h1 h2 h3 h4 h5 h6
    have HT := Lib.hid (show pitT ⟨s, a, o⟩ = letT s :: (List.replicate a.toNat 35 ++ List.replicate (-a).toNat 98 ++ [UInt8.ofNat (48 + o.toNat)]) by unfold pitT; rw [hv]; rfl)
    have HV := Lib.hid hv
    clear hv
    go_enter Tryd.func32, Tryd.ntmps32
    go_wp2_with fail
    (go_at_call 42; (with_reducible refine (c_sPitchValid ⟨s, a, o⟩ _).mono ?_); rintro e wq ⟨rfl, hbq⟩; have hzq := hbq.size; (try simp only [size_alloc', size_setCell', size_drew', size_drewN'] at hzq); (try (refine keep_heap (b := w.heap.size) hbq ?_ ?_; (first | omega | (simp only [size_alloc', size_setCell', size_drew', size_drewN']; omega)); intro hkq; simp only [heap_alloc_get, heap_setCell_get, heap_drew_get, heap_drewN_get, size_alloc', size_setCell', size_drew', size_drewN', nat_simp1, nat_simp2, nat_simp3, nat_simp4, nat_simp5, if_true, if_false, *] at hkq; obtain ⟨_, _⟩ := blk_facts hkq)); (try (refine keep_heap (b := w.heap.size + 1) hbq ?_ ?_; (first | omega | (simp only [size_alloc', size_setCell', size_drew', size_drewN']; omega)); intro hkq; simp only [heap_alloc_get, heap_setCell_get, heap_drew_get, heap_drewN_get, size_alloc', size_setCell', size_drew', size_drewN', nat_simp1, nat_simp2, nat_simp3, nat_simp4, nat_simp5, if_true, if_false, *] at hkq; obtain ⟨_, _⟩ := blk_facts hkq)); (try (refine keep_heap (b := w.heap.size + 1 + 1) hbq ?_ ?_; (first | omega | (simp only [size_alloc', size_setCell', size_drew', size_drewN']; omega)); intro hkq; simp only [heap_alloc_get, heap_setCell_get, heap_drew_get, heap_drewN_get, size_alloc', size_setCell', size_drew', size_drewN', nat_simp1, nat_simp2, nat_simp3, nat_simp4, nat_simp5, if_true, if_false, *] at hkq; obtain ⟨_, _⟩ := blk_facts hkq)); (try (refine keep_heap (b := w.heap.size + 1 + 1 + 1) hbq ?_ ?_; (first | omega | (simp only [size_alloc', size_setCell', size_drew', size_drewN']; omega)); intro hkq; simp only [heap_alloc_get, heap_setCell_get, heap_drew_get, heap_drewN_get, size_alloc', size_setCell', size_drew', size_drewN', nat_simp1, nat_simp2, nat_simp3, nat_simp4, nat_simp5, if_true, if_false, *] at hkq; obtain ⟨_, _⟩ := blk_facts hkq)); skip)
    rw [HV.out]
    have hsl := fun W => run_letter (P := Tryd.prog) 9 Tryd.underlying9 s h1 h2 W
    go_wp2_with fail
    go_loop [3, 4] (fun x k => ∃ j : Nat, k = .int .i64 j ∧ j ≤ a.toNat ∧ x = .string ⟨(letT s :: List.replicate j 35).toArray⟩) (fun _ k => a.toNat - (intOf k).toNat)
    case atStart => exact ⟨0, rfl, Nat.zero_le _, rfl⟩
    case round =>
      clear hsl
      obtain ⟨j, rfl, hj, rfl⟩ := hrel
      by_cases hlt : (j : Int) < a
      · have hcc := fun W => run_add_snoc (P := Tryd.prog) (letT s :: List.replicate j 35) 35 (by simp; omega) W
        have hE := Lib.hid (show letT s :: List.replicate j 35 ++ [35] = letT s :: List.replicate (j + 1) 35 by rw [List.replicate_succ']; rfl)
        generalize letT s :: List.replicate j 35 = out at *
        go_wp2_with fail
        go_round
        case rel => exact ⟨j + 1, by go_num, by omega, by rw [← hE.out]⟩
        case measure => simp [intOf]; omega
      · have hja : j = a.toNat := by omega
        subst hja
        generalize hout : letT s :: List.replicate a.toNat 35 = out at *
        have HO := Lib.hid hout
        have hol : out.length ≤ 3 := by rw [← hout]; simp; omega
        clear hout
        go_wp2_with fail
        go_loop [3, 5] (fun x k => ∃ j : Nat, k = .int .i64 j ∧ j ≤ (-a).toNat ∧ x = .string ⟨(out ++ List.replicate j 98).toArray⟩) (fun _ k => (-a).toNat - (intOf k).toNat)
        case atStart => exact ⟨0, rfl, Nat.zero_le _, by simp⟩
        case round =>
          obtain ⟨j, rfl, hj, rfl⟩ := hrel
          by_cases hlt : (j : Int) < -a
          · have hcc := fun W => run_add_snoc (P := Tryd.prog) (out ++ List.replicate j 98) 98 (by simp; omega) W
            have hE := Lib.hid (show out ++ List.replicate j 98 ++ [98] = out ++ List.replicate (j + 1) 98 by rw [List.replicate_succ', List.append_assoc])
            generalize out ++ List.replicate j 98 = out2 at *
            go_wp2_with fail
            go_round
            case rel => exact ⟨j + 1, by go_num, by omega, by rw [← hE.out]⟩
            case measure => simp [intOf]; omega
          · have hja : j = (-a).toNat := by omega
            subst hja
            have hcv := fun W => run_byte_string (P := Tryd.prog) 32 9 5 Tryd.underlying32 Tryd.underlying5 Tryd.underlying9 (48 + o) (by omega) (by omega) W 5
            rw [show (48 + o).toNat = 48 + o.toNat by omega] at hcv
            have hcc := fun W => run_add_snoc (P := Tryd.prog) (out ++ List.replicate (-a).toNat 98) (UInt8.ofNat (48 + o.toNat)) (by simp; omega) W
            generalize UInt8.ofNat (48 + o.toNat) = c at *
            generalize hout2 : out ++ List.replicate (-a).toNat 98 = out2 at *
            have HP := Lib.hid hout2
            clear hout2
            go_wp2_with fail
            go_ret
            refine ⟨?_, by (repeat' (first | (with_reducible exact Below.refl _ _) | (with_reducible refine Below.setCell ?_ ?_ _) | (with_reducible refine Below.alloc ?_ ?_ _) | (with_reducible refine Below.drew ?_) | (with_reducible refine below_drewN ?_ _) | (with_reducible refine Below.trans ?_ (Below.mono (by with_reducible assumption) ?_)) | omega | (simp only [size_alloc', size_setCell', size_drew', size_drewN'] at *; omega)))⟩
            rw [HT.out, ← HP.out, ← HO.out]
            simp
theorem c_rep (x : UInt8) (A : Nat) (w : World) (h : A ≤ 2) :
    Calls Tryd.prog 57 #[.string ⟨#[x]⟩, .int .i64 A] w fun e w' => e = .returned (.string ⟨(List.replicate A x).toArray⟩) ∧ Below w.heap.size w w' := by
  have := Tryd.strings_Repeat ⟨#[x]⟩ A w (by omega) (by show 1 * A ≤ _; omega)
  rw [show (⟨#[x]⟩ : ByteArray).data.toList = List.replicate 1 x from rfl, Lib.repeatL_replicate, Nat.mul_one] at this
  exact this
theorem c_iPitchText (p : Pit) (w : World) :
    Calls Tryd.prog 36 #[p.v] w fun e w' => e = .returned (.string ⟨(pitT p).toArray⟩) ∧ Below w.heap.size w w' := by
  obtain ⟨s, a, o⟩ := p
  cases hv : pitchValid ⟨s, a, o⟩
  · have HT := Lib.hid (show pitT ⟨s, a, o⟩ = [] by unfold pitT; rw [hv]; rfl)
    go_enter Tryd.func36, Tryd.ntmps36
    go_wp2_with (go_at_call 56; (with_reducible refine (c_PitchValid ⟨s, a, o⟩ _).mono ?_); rintro e wq ⟨rfl, hbq⟩; have hzq := hbq.size; (try simp only [size_alloc', size_setCell', size_drew', size_drewN'] at hzq); (try (refine keep_heap (b := w.heap.size) hbq ?_ ?_; (first | omega | (simp only [size_alloc', size_setCell', size_drew', size_drewN']; omega)); intro hkq; simp only [heap_alloc_get, heap_setCell_get, heap_drew_get, heap_drewN_get, size_alloc', size_setCell', size_drew', size_drewN', nat_simp1, nat_simp2, nat_simp3, nat_simp4, nat_simp5, if_true, if_false, *] at hkq; obtain ⟨_, _⟩ := blk_facts hkq)); (try (refine keep_heap (b := w.heap.size + 1) hbq ?_ ?_; (first | omega | (simp only [size_alloc', size_setCell', size_drew', size_drewN']; omega)); intro hkq; simp only [heap_alloc_get, heap_setCell_get, heap_drew_get, heap_drewN_get, size_alloc', size_setCell', size_drew', size_drewN', nat_simp1, nat_simp2, nat_simp3, nat_simp4, nat_simp5, if_true, if_false, *] at hkq; obtain ⟨_, _⟩ := blk_facts hkq)); (try (refine keep_heap (b := w.heap.size + 1 + 1) hbq ?_ ?_; (first | omega | (simp only [size_alloc', size_setCell', size_drew', size_drewN']; omega)); intro hkq; simp only [heap_alloc_get, heap_setCell_get, heap_drew_get, heap_drewN_get, size_alloc', size_setCell', size_drew', size_drewN', nat_simp1, nat_simp2, nat_simp3, nat_simp4, nat_simp5, if_true, if_false, *] at hkq; obtain ⟨_, _⟩ := blk_facts hkq)); (try (refine keep_heap (b := w.heap.size + 1 + 1 + 1) hbq ?_ ?_; (first | omega | (simp only [size_alloc', size_setCell', size_drew', size_drewN']; omega)); intro hkq; simp only [heap_alloc_get, heap_setCell_get, heap_drew_get, heap_drewN_get, size_alloc', size_setCell', size_drew', size_drewN', nat_simp1, nat_simp2, nat_simp3, nat_simp4, nat_simp5, if_true, if_false, *] at hkq; obtain ⟨_, _⟩ := blk_facts hkq)); skip)
    go_ret
    exact ⟨by rw [HT.out]; rfl, by (repeat' (first | (with_reducible exact Below.refl _ _) | (with_reducible refine Below.setCell ?_ ?_ _) | (with_reducible refine Below.alloc ?_ ?_ _) | (with_reducible refine Below.drew ?_) | (with_reducible refine below_drewN ?_ _) | (with_reducible refine Below.trans ?_ (Below.mono (by with_reducible assumption) ?_)) | omega | (simp only [size_alloc', size_setCell', size_drew', size_drewN'] at *; omega)))⟩
  · obtain ⟨h1, h2, h3, h4, h5, h6⟩ := pitchValid_iff.1 hv
    dsimp only at h1 h2 h3 h4 h5 h6
    have HT := Lib.hid (show pitT ⟨s, a, o⟩ = letT s :: (List.replicate a.toNat 35 ++ List.replicate (-a).toNat 98 ++ [UInt8.ofNat (48 + o.toNat)]) by unfold pitT; rw [hv]; rfl)
    have HV := Lib.hid hv
    clear hv
    go_enter Tryd.func36, Tryd.ntmps36
    go_wp2_with fail
    (go_at_call 56; (with_reducible refine (c_PitchValid ⟨s, a, o⟩ _).mono ?_); rintro e wq ⟨rfl, hbq⟩; have hzq := hbq.size; (try simp only [size_alloc', size_setCell', size_drew', size_drewN'] at hzq); (try (refine keep_heap (b := w.heap.size) hbq ?_ ?_; (first | omega | (simp only [size_alloc', size_setCell', size_drew', size_drewN']; omega)); intro hkq; simp only [heap_alloc_get, heap_setCell_get, heap_drew_get, heap_drewN_get, size_alloc', size_setCell', size_drew', size_drewN', nat_simp1, nat_simp2, nat_simp3, nat_simp4, nat_simp5, if_true, if_false, *] at hkq; obtain ⟨_, _⟩ := blk_facts hkq)); (try (refine keep_heap (b := w.heap.size + 1) hbq ?_ ?_; (first | omega | (simp only [size_alloc', size_setCell', size_drew', size_drewN']; omega)); intro hkq; simp only [heap_alloc_get, heap_setCell_get, heap_drew_get, heap_drewN_get, size_alloc', size_setCell', size_drew', size_drewN', nat_simp1, nat_simp2, nat_simp3, nat_simp4, nat_simp5, if_true, if_false, *] at hkq; obtain ⟨_, _⟩ := blk_facts hkq)); (try (refine keep_heap (b := w.heap.size + 1 + 1) hbq ?_ ?_; (first | omega | (simp only [size_alloc', size_setCell', size_drew', size_drewN']; omega)); intro hkq; simp only [heap_alloc_get, heap_setCell_get, heap_drew_get, heap_drewN_get, size_alloc', size_setCell', size_drew', size_drewN', nat_simp1, nat_simp2, nat_simp3, nat_simp4, nat_simp5, if_true, if_false, *] at hkq; obtain ⟨_, _⟩ := blk_facts hkq)); (try (refine keep_heap (b := w.heap.size + 1 + 1 + 1) hbq ?_ ?_; (first | omega | (simp only [size_alloc', size_setCell', size_drew', size_drewN']; omega)); intro hkq; simp only [heap_alloc_get, heap_setCell_get, heap_drew_get, heap_drewN_get, size_alloc', size_setCell', size_drew', size_drewN', nat_simp1, nat_simp2, nat_simp3, nat_simp4, nat_simp5, if_true, if_false, *] at hkq; obtain ⟨_, _⟩ := blk_facts hkq)); skip)
    rw [HV.out]
    have hsl := fun W => run_letter (P := Tryd.prog) 9 Tryd.underlying9 s h1 h2 W
    obtain ⟨A, hA⟩ : ∃ A : Nat, A = a.toNat := ⟨_, rfl⟩
    obtain ⟨B, hB⟩ : ∃ B : Nat, B = (-a).toNat := ⟨_, rfl⟩
    have hA2 : A ≤ 2 := by omega
    have hB2 : B ≤ 2 := by omega
    have hif1 : max 0 a = (A : Int) := by omega
    have hif2 : max 0 (-a) = (B : Int) := by omega
    have henc : Utf8.encode (48 + o) = ⟨#[UInt8.ofNat (48 + o.toNat)]⟩ := by
      rcases (show o = 0 ∨ o = 1 ∨ o = 2 ∨ o = 3 ∨ o = 4 ∨ o = 5 ∨ o = 6 ∨ o = 7 ∨ o = 8 by omega) with rfl | rfl | rfl | rfl | rfl | rfl | rfl | rfl | rfl <;> rfl
    rw [← hA, ← hB] at HT
    clear hA hB
    generalize UInt8.ofNat (48 + o.toNat) = c at *
    generalize letT s = l at *
    generalize hx : List.replicate A (35 : UInt8) = x at *
    generalize hy : List.replicate B (98 : UInt8) = y at *
    have hxl : x.length ≤ 2 := by rw [← hx]; simpa using hA2
    have hyl : y.length ≤ 2 := by rw [← hy]; simpa using hB2
    have hca := fun W => c_rep 35 A W hA2
    have hcb := fun W => c_rep 98 B W hB2
    rw [hx] at hca
    rw [hy] at hcb
    have HA := Lib.hid hca
    have HB := Lib.hid hcb
    clear hx hy hca hcb
    have hc1 := fun W => run_string_add_lists (P := Tryd.prog) W [l] x (by simp) (by omega)
    have hc2 := fun W => run_string_add_lists (P := Tryd.prog) W ([l] ++ x) y (by simp; omega) (by omega)
    generalize hz : [l] ++ x = z at *
    have hc3 := fun W => run_add_snoc (P := Tryd.prog) (z ++ y) c (by rw [← hz]; simp; omega) W
    generalize hz2 : z ++ y = z2 at *
    have HZ := Lib.hid hz
    have HZ2 := Lib.hid hz2
    clear hz hz2
    go_wp2_with fail
    (refine wp_region_more_lit (by kernel_rfl) (by kernel_rfl) ?_; (repeat (go_big_quiet_step (first | (go_at_call 57; with_reducible exact Calls.more_of (HA.out _)) | (go_at_call 57; with_reducible exact Calls.more_of (HB.out _))))); refine wpQuiet_nil ?_; intro wq hwq; have hbq := below_of_more hwq; clear hwq; have hzq := hbq.size; (try simp only [size_alloc', size_setCell', size_drew', size_drewN'] at hzq); (try (refine keep_heap (b := w.heap.size) hbq ?_ ?_; (first | omega | (simp only [size_alloc', size_setCell', size_drew', size_drewN']; omega)); intro hkq; simp only [heap_alloc_get, heap_setCell_get, heap_drew_get, heap_drewN_get, size_alloc', size_setCell', size_drew', size_drewN', nat_simp1, nat_simp2, nat_simp3, nat_simp4, nat_simp5, if_true, if_false, *] at hkq; obtain ⟨_, _⟩ := blk_facts hkq)); skip)
    go_wp2_with fail
    go_ret
    refine ⟨?_, by (repeat' (first | (with_reducible exact Below.refl _ _) | (with_reducible refine Below.setCell ?_ ?_ _) | (with_reducible refine Below.alloc ?_ ?_ _) | (with_reducible refine Below.drew ?_) | (with_reducible refine below_drewN ?_ _) | (with_reducible refine Below.trans ?_ (Below.mono (by with_reducible assumption) ?_)) | omega | (simp only [size_alloc', size_setCell', size_drew', size_drewN'] at *; omega)))⟩
    rw [HT.out, ← HZ2.out, ← HZ.out]
    simp
end Go.Proofs.YtaikcpidijekpaaDoor
