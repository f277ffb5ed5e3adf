/- Sets of tones: sameTones. Conditions: pitches' numbers fit in 64 bits. -/
import Derived.Test.YtiameebjcmnmeaaT1
namespace Go.Proofs.Ytiameebjcmnmeaa
open Go.RowKit
open Go.Maps (Keyed)
set_option linter.unusedSimpArgs false
set_option linter.unusedVariables false
set_option maxHeartbeats 8000000
theorem tone_inv {v : Value} {l : Lit} (h : Go.keyOf Try.prog 67 v = some l) : ∃ s a, v = tv s a ∧ l = tLit s a := by
  obtain ⟨m, hm⟩ : ∃ m, Try.prog.types.size = m + 1 := by
    cases h : Try.prog.types.size with
    | zero => have := tone_row; rw [h] at this; exact absurd this (Nat.not_lt_zero _)
    | succ m => exact ⟨m, rfl⟩
  unfold Go.keyOf at h
  simp only [Try.underlying67] at h
  split at h
  · rename_i hc
    rw [Bool.and_eq_true] at hc
    have hf := hc.2
    cases v <;> simp [Value.formed, Try.underlying67, tone_cells] at hf
    rename_i xs
    obtain ⟨ls⟩ := xs
    match ls, hf with
    | [c0, c1], _ =>
      rw [hm] at h
      unfold Program.keyLits at h
      simp only [Try.underlying67, Value.cells] at h
      rw [if_pos (by rw [tone_cells]; exact ⟨rfl, by kernel_rfl⟩)] at h
      simp only [List.mapM_cons, List.mapM_nil, int_cells, List.drop_zero, List.take_succ_cons, List.take_zero, List.drop_succ_cons] at h
      cases c0 <;> cases c1 <;> simp [Program.keyLits, Try.underlying3, List.take_succ_cons, List.take_zero] at h
      rename_i k0 n0 k1 n1 hsz
      by_cases e0 : k0 = IntKind.i64 ∧ (Lit.int IntKind.i64 n0).wf = true
      · by_cases e1 : k1 = IntKind.i64 ∧ (Lit.int IntKind.i64 n1).wf = true
        · rw [if_pos e0, if_pos e1] at h
          obtain ⟨rfl, _⟩ := e0
          obtain ⟨rfl, _⟩ := e1
          cases h
          exact ⟨_, _, rfl, rfl⟩
        · rw [if_pos e0, if_neg e1] at h; cases h
      · rw [if_neg e0] at h; cases h
  · cases h
theorem ranges_has {w : World} {b r n : Nat} {l : List Pit} {left : Lit → Bool} {cnt : Nat} (h : w.ranges Try.prog 67 tR b r n (setP l) left cnt) {kl : Lit} (hk : WideAt.IsKeyLit kl) (hl : left kl = true) : Maps.has (setP l) kl = true := by
  obtain ⟨es, clock, since, seen, c0, hb, F, hs, hD, hr, hold, hc, h1, h2, _⟩ := h
  obtain ⟨x, hx, rfl⟩ := h2 kl hl
  rw [hD]
  exact List.any_eq_true.2 ⟨_, mem_sorted.2 (List.mem_map.2 ⟨x, hx, rfl⟩), WideAt.sameKey_self hk⟩
theorem grown_none {w w' : World} (h : Below w.heap.size w w') : w.grownBy w' none := ⟨h.os, h.tape, h.output, h.size, fun i hi _ => h.block i hi⟩
theorem below_none {w w' : World} (h : w.grownBy w' none) : Below w.heap.size w w' := ⟨h.os, h.tape, h.output, h.size, fun i hi => h.block i hi (by simp)⟩
theorem c_sameTones (u v : Value) (xs ys : List Pit) (w : World) (h1 : Rd w u 3 xs.length (pitCells xs)) (h2 : Rd w v 3 ys.length (pitCells ys)) (hn1 : xs.length ≤ 1048576) (hn2 : ys.length ≤ 1048576) (hg1 : WfP xs) (hg2 : WfP ys) :
    Calls Try.prog 48 #[u, v] w fun e w' => e = .returned (.bool (sameT xs ys)) ∧ Below w.heap.size w w' := by
  have H1 := Lib.hid h1
  have H2 := Lib.hid h2
  have HG1 := Lib.hid hg1
  have HG2 := Lib.hid hg2
  obtain ⟨_, A1, c1, rfl, _, _, _⟩ := h1
  obtain ⟨_, A2, c2, rfl, _, _, _⟩ := h2
  clear hg1 hg2
  go_enter Try.func48, Try.ntmps48
  go_wp2_with fail
  (go_at_call 64; (with_reducible refine (c_tonesOf _ xs _ H1.out hn1 HG1.out).mono ?_); rintro e w1 ⟨b1, rfl, hlb1, ho1, hb1⟩)
  have HM1 := Lib.hid ho1
  have HR2 := Lib.hid (H2.out.below (Nat.le_refl _) hb1)
  have hlt1 := ho1.lt
  clear ho1
  go_wp2_with fail
  (go_at_call 64; (with_reducible refine (c_tonesOf _ ys _ HR2.out hn2 HG2.out).mono ?_); rintro e w2 ⟨b2, rfl, hlb2, ho2, hb2⟩)
  have HX := Lib.hid (HM1.out.kept (grown_none hb2) (by simp))
  have HY := Lib.hid ho2
  have hlt2 := ho2.lt
  have hz2 := hb2.size
  have S := hb1.trans (hb2.mono hb1.size)
  clear ho2
  by_cases hsz : Maps.size (setP xs) = Maps.size (setP ys)
  · have hne : ((Maps.size (setP xs) : Int) != (Maps.size (setP ys) : Int)) = false := by simp only [bne_eq_false_iff_eq]; omega
    have HSZ := Lib.hid hsz
    clear hsz
    go_wp2_with (first | (at_len; refine wpList_len_own _ rfl _ 86 rfl 67 4 Try.underlying86 tR b1 xs.length (setP xs) rfl HX.out ?_) | (at_len; refine wpList_len_own _ rfl _ 86 rfl 67 4 Try.underlying86 tR b2 ys.length (setP ys) rfl HY.out ?_) |
      (at_range; go_loud (refine wpList_range_own _ rfl _ 86 rfl 67 4 tone_law Try.underlying86 tR b1 xs.length (setP xs) rfl HX.out ?_); intro w3 hrg3 hgr3 hs3))
    go_frame
    have HRG := Lib.hid hrg3
    have HY3 := Lib.hid (HY.out.kept hgr3 (by simp))
    have S3 := S.trans ((below_none hgr3).mono S.size)
    have hszw := S.size
    clear hrg3 hgr3 S
    go_loopw [21] (fun _ wr => ∃ (left : Lit → Bool) (cnt : Nat), wr.ranges Try.prog 67 tR b1 w2.heap.size xs.length (setP xs) left cnt ∧ wr.ownsMap Try.prog 67 tR b2 ys.length (setP ys) ∧
      (∀ kl, Maps.has (setP xs) kl = true → left kl = true ∨ Maps.has (setP ys) kl = true) ∧ Below w.heap.size w wr) (fun _ wr => wr.rangeLeft b1 w2.heap.size)
    case atStart => exact ⟨_, _, HRG.out, HY3.out, fun kl h => .inl h, S3⟩
    case round =>
      obtain ⟨left, cnt, hrg, hoy, hst, hbl⟩ := hrel
      have HRG := Lib.hid hrg
      have HOY := Lib.hid hoy
      have HST := Lib.hid hst
      have hz := hbl.size
      have hlx := hrg.lt
      have hly := hoy.lt
      clear hst hoy
      go_wp2_with (at_next; go_loud (refine wpList_next_ranges (α := Value) (β := Value) _ rfl _ rfl 67 tone_law tR (fun v => v) (fun v => v) (fun key kl _ => ⟨key, rfl⟩) (fun v y _ => ⟨v, rfl⟩) b1 w2.heap.size xs.length (setP xs) left cnt rfl HRG.out ?_ ?_))
      · intro h0 hl0
        have HF := Lib.hid (same_sets HG1.out HG2.out HRG.out.owns HOY.out HSZ.out (fun k hk => (HST.out k hk).resolve_left (by rw [hl0]; simp)))
        clear hrg
        go_wp2_with fail
        go_ret
        exact ⟨ret_bool HF.out.symm, hbl⟩
      · intro x c kl d ps w4 cnt4 hkey hlk hRc hat hrg4 hcl hgr4 hs4 hen
        obtain ⟨s, a, rfl, rfl⟩ := tone_inv hkey
        have HKey := Lib.hid hkey
        have HHX := Lib.hid (ranges_has HRG.out (tLit_key s a) hlk)
        have HRG4 := Lib.hid (hrg4.alloc (.cells #[.int .i64 s, .int .i64 a] 67))
        have HOY4 := Lib.hid ((HOY.out.kept hgr4 (by intro hh; cases hh; omega)).alloc (.cells #[.int .i64 s, .int .i64 a] 67))
        have HBL4 := Lib.hid (show Below w.heap.size w w4 from hbl.trans ⟨hgr4.os, hgr4.tape, hgr4.output, hgr4.size, fun i hi => hgr4.block i (by omega) (by intro hh; cases hh; omega)⟩)
        have hz4 := HBL4.out.size
        have HLE := Lib.hid (show cnt4 < cnt from hcl)
        have HEq := Lib.hid HRG.out.left_eq
        clear hkey hlk hRc hat hrg4 hgr4 hrg hcl
        cases hb : Maps.has (setP ys) (tLit s a)
        · have HF := Lib.hid (not_same_key HG1.out HG2.out HHX.out hb)
          go_wp2_with (at_lookup; go_loud (refine wpList_lookup_set rfl _ _ rfl b2 ys.length ys rfl HOY4.out _ (tLit s a) rfl HKey.out ?_))
          go_ret
          exact ⟨ret_bool HF.out.symm, HBL4.out.alloc hz4 _⟩
        · have HST4 := Lib.hid (show ∀ kl', Maps.has (setP xs) kl' = true → (left kl' && !kl'.sameKey (tLit s a)) = true ∨ Maps.has (setP ys) kl' = true from fun kl' hk => by
            cases he : kl'.sameKey (tLit s a)
            · rcases HST.out kl' hk with h | h
              · left; rw [h]; rfl
              · exact .inr h
            · have := WideAt.sameKey_eq he
              subst this
              exact .inr hb)
          go_wp2_with (at_lookup; go_loud (refine wpList_lookup_set rfl _ _ rfl b2 ys.length ys rfl HOY4.out _ (tLit s a) rfl HKey.out ?_))
          go_roundw
          case rel => exact ⟨_, _, HRG4.out, HOY4.out, HST4.out, HBL4.out.alloc hz4 _⟩
          case measure =>
            rw [HRG4.out.left_eq, HEq.out]
            exact HLE.out
  · have HF := Lib.hid (not_same_size HG1.out HG2.out HX.out HY.out hsz)
    have hne : ((Maps.size (setP xs) : Int) != (Maps.size (setP ys) : Int)) = true := by simp only [bne_iff_ne, ne_eq]; omega
    clear hsz
    go_wp2_with (first | (at_len; refine wpList_len_own _ rfl _ 86 rfl 67 4 Try.underlying86 tR b1 xs.length (setP xs) rfl HX.out ?_) | (at_len; refine wpList_len_own _ rfl _ 86 rfl 67 4 Try.underlying86 tR b2 ys.length (setP ys) rfl HY.out ?_))
    go_ret
    exact ⟨ret_bool HF.out.symm, S⟩
end Go.Proofs.Ytiameebjcmnmeaa
