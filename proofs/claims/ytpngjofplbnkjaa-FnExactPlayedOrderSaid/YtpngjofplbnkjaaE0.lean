/- Slices of the call's own beside a reader. Conditions: none. -/
import Derived.Test.YtpngjofplbnkjaaD1
namespace Go.Proofs.Ytpngjofplbnkjaa
open Go.RowKit
set_option linter.unusedSimpArgs false
set_option linter.unusedVariables false
set_option maxHeartbeats 2000000

section
variable {base e size n g m : Nat} {v : Value} {xs : List Value} {a w w' : World}
theorem own_ne (h : w.ownsRow base e size v n xs) (hg : g < base) : v.ownBlock = none ∨ v.ownBlock ≠ some g := by
  cases hv : v.ownBlock with
  | none => exact .inl rfl
  | some k =>
    right
    intro hk
    cases hk
    have := (h.lt g hv).1
    omega
theorem own_pick (h : w.ownsRow base e size v n xs) (hk : w.grownBy w' (some g)) (hg : g < base) : w'.ownsRow base e size v n xs := h.kept hk (own_ne h hg)
theorem own_below (h : w.ownsRow base e size v n xs) (hb : Below w.heap.size w w') : w'.ownsRow base e size v n xs :=
  h.kept (row := none) ⟨hb.os, hb.tape, hb.output, hb.size, fun k hk _ => hb.block k hk⟩ (by cases hv : v.ownBlock <;> simp)
theorem rdr_append (hr : Rdr w g m) (h : w.ownsRow base e size v n xs) (hk : w.grownBy w' v.ownBlock) (hg : g < base) : Rdr w' g m := by
  refine hr.keep fun k hk' => hk.block k (Nat.lt_of_le_of_lt hk' hr.lt) ?_
  intro hs
  have := (h.lt k hs.symm).1
  omega
theorem kp_append (ha : a.grownBy w (some g)) (h : w.ownsRow base e size v n xs) (hk : w.grownBy w' v.ownBlock) (hb : a.heap.size ≤ base) : a.grownBy w' (some g) :=
  ⟨hk.os.trans ha.os, hk.tape.trans ha.tape, hk.output.trans ha.output, Nat.le_trans ha.size hk.size, fun i hi hne =>
    (hk.block i (Nat.lt_of_lt_of_le hi ha.size) (by
      intro hs
      have := (h.lt i hs.symm).1
      omega)).trans (ha.block i hi hne)⟩
theorem bel_append {B : Nat} (ha : Below B a w) (h : w.ownsRow base e size v n xs) (hk : w.grownBy w' v.ownBlock) (hb : B ≤ base) (hB : B ≤ w.heap.size) : Below B a w' :=
  ha.trans ⟨hk.os, hk.tape, hk.output, hk.size, fun i hi => hk.block i (by omega) (by
      intro hs
      have := (h.lt i hs.symm).1
      omega)⟩
end
theorem ints_snoc (l : List Int) (x : Int) : intCells (l ++ [x]) = intCells l ++ [.int .i64 x] := by
  rw [show ∀ l : List Int, intCells l = l.map (Value.int .i64) from fun l => by
    induction l with
    | nil => rfl
    | cons a l ih => show cellsOf _ _ = _; rw [cellsOf_cons, List.map_cons]; show [_] ++ intCells l = _; rw [ih]; rfl]
  rw [show intCells l = l.map (Value.int .i64) from by
    induction l with
    | nil => rfl
    | cons a l ih => show cellsOf _ _ = _; rw [cellsOf_cons, List.map_cons]; show [_] ++ intCells l = _; rw [ih]; rfl]
  simp
theorem info_intE : (Try.prog.info? 3).map (fun i => (i.zero, i.size, i.bytes)) = some (some (.int .i64 0), 1, 8) := by kernel_rfl
theorem wp_app1 {w : World} {ops : Array Oper} {rest : List Oper} {o : Oper} {a : Act} {Q : Exit → Act → World → Prop} (hgd : o.guard = none) (s x : Operand)
    (ho : o.op = .call { callee := .builtin .append, args := #[s, x], argTypes := #[22, 22] }) (base : Nat) (v : Value) (l : List Int) (hs : a.eval s = v)
    (hown : w.ownsRow base 3 1 v l.length (intCells l)) (b : Nat) (y : Int) (hx : a.eval x = .slice (some ⟨b, 0, none⟩) 1 1) (hc : w.cell? ⟨b, 0, none⟩ = some (.int .i64 y)) (hl : l.length ≤ 4000000) (hbase : base ≤ w.heap.size)
    (h : ∀ v' w', w'.ownsRow base 3 1 v' (l ++ [y]).length (intCells (l ++ [y])) → w.grownBy w' v.ownBlock → wpList Try.prog ops Q rest (a.put o.dst v') w') : wpList Try.prog ops Q (o :: rest) a w := by
  obtain ⟨i0, hi0, hz0, hz1, hz2⟩ := info_parts info_intE
  refine wpList_append_own w hgd s x 22 ho base 3 i0 (.int .i64 0) 1 8 Try.underlying22 hi0 hz0 hz1 hz2 rfl (by decide) v _ _ hs hown ⟨b, 0, none⟩ 1 1 [.int .i64 y] hx rfl ?_ ?_ ?_ ?_ hbase ?_
  · intro j u hj
    match j, hj with
    | 0, hj => simp at hj; subst hj; simpa [Addr.add] using hc
  · intro u hu; simp at hu; subst hu; rfl
  · unfold maxLen; omega
  · omega
  · intro v' w' h1 h2 _
    refine h v' w' ?_ h2
    rw [ints_snoc, List.length_append]
    exact h1
def DrewInts (g m : Nat) (w : World) (e : Ending) (w' : World) : Prop :=
  ∃ v l, e = .returned v ∧ w'.ownsRow w.heap.size 3 1 v (l : List Int).length (intCells l) ∧ l.length ≤ 9 ∧ (∀ a ∈ l, I64 a) ∧ Rdr w' g m ∧ w.grownBy w' (some g)
theorem all_snoc {p : Int → Prop} {l : List Int} {y : Int} (h : ∀ a ∈ l, p a) (hy : p y) : ∀ a ∈ l ++ [y], p a := by
  intro a ha
  rcases List.mem_append.1 ha with h1 | h1
  · exact h a h1
  · rw [List.mem_singleton.1 h1]; exact hy
theorem c_l20Degrees (g m : Nat) (w : World) (h : Rdr w g (m + 18)) :
    Calls Try.prog 59 #[.pointer (some ⟨g, 0, none⟩)] w (DrewInts g m w) := by
  have hg := h.lt
  go_enter Try.func59, Try.ntmps59
  go_wp2_with fail
  (go_at_call 67; (with_reducible refine (c_pick g (m+17) _ _ ?_ (by omega) (by omega)).mono ?_); (focus (repeat' (first | (with_reducible assumption) | (with_reducible refine Rdr.alloc ?_ _) | (with_reducible refine Rdr.setCell ?_ ?_ _) | (with_reducible refine Rdr.drewN ?_ _) | (with_reducible refine Rdr.drew ?_) | (show _ < _; first | omega | (simp only [size_alloc', size_setCell', size_drew', size_drewN'] at *; omega))))); rintro e w1 ⟨x1, rfl, hx1, hy1, hz1, hrq, hgq⟩; have hsq := hgq.size; (try simp only [size_alloc', size_setCell', size_drew', size_drewN'] at hsq); (try (refine keep_heap_g (b := w.heap.size) hgq ?_ ?_ ?_; (first | omega | (simp only [size_alloc', size_setCell', size_drew', size_drewN']; omega)); omega; intro hkq; simp only [heap_alloc_get, heap_setCell_get, heap_drew_get, heap_drewN_get, size_alloc', size_setCell', size_drew', size_drewN', nat_simp1, nat_simp2, nat_simp3, nat_simp4, nat_simp5, if_true, if_false, Option.map_some, *] at hkq; obtain ⟨_, _⟩ := blk_facts hkq)); (try (refine ne_cps (a := w.heap.size) (b := w1.heap.size) ?_ ?_; omega; intro _ _)); (try (refine ne_cps (a := w.heap.size) (b := w1.heap.size + 1) ?_ ?_; omega; intro _ _)); (try (refine ne_cps (a := w.heap.size) (b := w1.heap.size + 1 + 1) ?_ ?_; omega; intro _ _)); skip)
  have hx1' := hy1 (by omega)
  go_wp2_with fail
  go_loopw [3, 4] (fun o i wr => ∃ (k : Nat) (l : List Int), i = .int .i64 k ∧ l.length + k ≤ 7 ∧ wr.ownsRow w.heap.size 3 1 o l.length (intCells l) ∧ (∀ a ∈ l, I64 a) ∧ Rdr wr g (m + 3 + 2 * k) ∧ w.grownBy wr (some g)) (fun _ i _ => (intOf i).toNat)
  case atStart =>
    obtain ⟨k0, rfl⟩ := Int.eq_ofNat_of_zero_le hx1
    exact ⟨k0, [], rfl, by simp; omega, ⟨rfl, .inr ⟨w.heap.size, 0, #[], rfl, Nat.le_refl _, by assumption, Nat.le_refl _, by unfold maxLen; omega, rfl, rfl⟩⟩, by simp, hrq.mono (by omega), kp_trans (kp_alloc (World.grownBy.refl _ _) _) hgq⟩
  case round =>
    obtain ⟨k, l, rfl, hkl, hown, hli, hrk, hgk⟩ := hrel
    have hO := Lib.hid hown
    have hL := Lib.hid hli
    have hG := Lib.hid hgk
    have hsk := hgk.size
    clear hown hli hgk
    rcases k with _ | k
    · have hrk' : Rdr wr g ((m + 2) + 1) := hrk
      go_wp2_with fail
      (go_at_call 68; (with_reducible refine (c_odd g (m+2) _ _ ?_ (by omega) (by omega)).mono ?_); (focus (repeat' (first | (with_reducible assumption) | (with_reducible refine Rdr.alloc ?_ _) | (with_reducible refine Rdr.setCell ?_ ?_ _) | (with_reducible refine Rdr.drewN ?_ _) | (with_reducible refine Rdr.drew ?_) | (show _ < _; first | omega | (simp only [size_alloc', size_setCell', size_drew', size_drewN'] at *; omega))))); rintro e w2 ⟨b2, rfl, hrq, hgq⟩; have hsq := hgq.size; (try simp only [size_alloc', size_setCell', size_drew', size_drewN'] at hsq); skip)
      have hO2 := Lib.hid (own_pick hO.out hgq hg)
      have hG2 := Lib.hid (kp_trans hG.out hgq)
      cases b2
      · go_wp2_with fail
        go_ret
        exact ⟨_, l, rfl, hO2.out, by omega, hL.out, hrq.mono (by omega), hG2.out⟩
      · go_wp2_with fail
        (go_at_call 67; (with_reducible refine (c_pick g (m+1) _ _ ?_ (by omega) (by omega)).mono ?_); (focus (repeat' (first | (with_reducible assumption) | (with_reducible refine Rdr.alloc ?_ _) | (with_reducible refine Rdr.setCell ?_ ?_ _) | (with_reducible refine Rdr.drewN ?_ _) | (with_reducible refine Rdr.drew ?_) | (show _ < _; first | omega | (simp only [size_alloc', size_setCell', size_drew', size_drewN'] at *; omega))))); rintro e w3 ⟨x3, rfl, hx3, hy3, hz3, hrq, hgq⟩; have hsq := hgq.size; (try simp only [size_alloc', size_setCell', size_drew', size_drewN'] at hsq); (try (refine keep_heap_g (b := w2.heap.size) hgq ?_ ?_ ?_; (first | omega | (simp only [size_alloc', size_setCell', size_drew', size_drewN']; omega)); omega; intro hkq; simp only [heap_alloc_get, heap_setCell_get, heap_drew_get, heap_drewN_get, size_alloc', size_setCell', size_drew', size_drewN', nat_simp1, nat_simp2, nat_simp3, nat_simp4, nat_simp5, if_true, if_false, Option.map_some, *] at hkq)); (try (refine ne_cps (a := w2.heap.size) (b := w3.heap.size) ?_ ?_; omega; intro _ _)); (try (refine ne_cps (a := w2.heap.size) (b := w3.heap.size + 1) ?_ ?_; omega; intro _ _)); (try (refine ne_cps (a := w2.heap.size) (b := w3.heap.size + 1 + 1) ?_ ?_; omega; intro _ _)); skip)
        have hx3' := hy3 (by omega)
        obtain ⟨y3, hc3, hm3⟩ := at_list [-1, 7] (W := w3) (b := w2.heap.size) (by assumption) x3 hx3 (by simpa using hx3')
        have hi3 := list_I64 (by decide) hm3
        have hO3 := Lib.hid (own_pick (hO2.out.alloc _) hgq hg)
        have hG3 := Lib.hid (kp_trans (kp_alloc hG2.out _) hgq)
        go_wp2_with (at_builtin; refine wp_app1 rfl (.tmp 24) (.tmp 30) rfl w.heap.size _ l rfl (hO3.out.alloc _) w3.heap.size y3 rfl ?c1 (by omega) ?c2 ?_)
        case c1 => simp
        case c2 => simp; omega
        intro v4 w4 hown4 hgr4
        have R4 := rdr_append (hrq.alloc _) (hO3.out.alloc _) hgr4 hg
        have K4 := kp_append (kp_alloc hG3.out _) (hO3.out.alloc _) hgr4 (Nat.le_refl _)
        have HO4 := Lib.hid hown4
        clear hown4 hgr4
        go_wp2_with fail
        go_ret
        exact ⟨_, l ++ [y3], rfl, by rw [show (l ++ [y3]).length = l.length + 1 by simp]; exact HO4.out, by simp; omega, all_snoc hL.out hi3, R4.mono (by omega), K4⟩
    · have hrk' : Rdr wr g ((m + 3 + 2 * k + 1) + 1) := hrk.mono (by omega)
      go_wp2_with fail
      (go_at_call 67; (with_reducible refine (c_pick g (m+3+2*k+1) _ _ ?_ (by omega) (by omega)).mono ?_); (focus (repeat' (first | (with_reducible assumption) | (with_reducible refine Rdr.alloc ?_ _) | (with_reducible refine Rdr.setCell ?_ ?_ _) | (with_reducible refine Rdr.drewN ?_ _) | (with_reducible refine Rdr.drew ?_) | (show _ < _; first | omega | (simp only [size_alloc', size_setCell', size_drew', size_drewN'] at *; omega))))); rintro e w2 ⟨x2, rfl, hx2, hy2, hz2, hrq, hgq⟩; have hsq := hgq.size; (try simp only [size_alloc', size_setCell', size_drew', size_drewN'] at hsq); skip)
      have hO2 := Lib.hid (own_pick hO.out hgq hg)
      have hG2 := Lib.hid (kp_trans hG.out hgq)
      have hx2' := hy2 (by omega)
      go_wp2_with fail
      (go_at_call 67; (with_reducible refine (c_pick g (m+3+2*k) _ _ ?_ (by omega) (by omega)).mono ?_); (focus (repeat' (first | (with_reducible assumption) | (with_reducible refine Rdr.alloc ?_ _) | (with_reducible refine Rdr.setCell ?_ ?_ _) | (with_reducible refine Rdr.drewN ?_ _) | (with_reducible refine Rdr.drew ?_) | (show _ < _; first | omega | (simp only [size_alloc', size_setCell', size_drew', size_drewN'] at *; omega))))); rintro e w3 ⟨x3, rfl, hx3, hy3, hz3, hrq, hgq⟩; have hsq := hgq.size; (try simp only [size_alloc', size_setCell', size_drew', size_drewN'] at hsq); (try (refine keep_heap_g (b := w2.heap.size) hgq ?_ ?_ ?_; (first | omega | (simp only [size_alloc', size_setCell', size_drew', size_drewN']; omega)); omega; intro hkq; simp only [heap_alloc_get, heap_setCell_get, heap_drew_get, heap_drewN_get, size_alloc', size_setCell', size_drew', size_drewN', nat_simp1, nat_simp2, nat_simp3, nat_simp4, nat_simp5, if_true, if_false, Option.map_some, *] at hkq)); (try (refine ne_cps (a := w2.heap.size) (b := w3.heap.size) ?_ ?_; omega; intro _ _)); (try (refine ne_cps (a := w2.heap.size) (b := w3.heap.size + 1) ?_ ?_; omega; intro _ _)); (try (refine ne_cps (a := w2.heap.size) (b := w3.heap.size + 1 + 1) ?_ ?_; omega; intro _ _)); skip)
      have hx3' := hy3 (by omega)
      obtain ⟨y3, hc3, hm3⟩ := at_list [x2, 4, 0, 3] (W := w3) (b := w2.heap.size) (by assumption) x3 hx3 (by simpa using hx3')
      have hi3 : I64 y3 := by
        unfold I64
        simp only [List.mem_cons, List.not_mem_nil, or_false] at hm3
        omega
      clear hm3
      have hO3 := Lib.hid (own_pick (hO2.out.alloc _) hgq hg)
      have hG3 := Lib.hid (kp_trans (kp_alloc hG2.out _) hgq)
      go_wp2_with (at_builtin; refine wp_app1 rfl (.tmp 12) (.tmp 20) rfl w.heap.size _ l rfl (hO3.out.alloc _) w3.heap.size y3 rfl ?c1 (by omega) ?c2 ?_)
      case c1 => simp
      case c2 => simp; omega
      intro v4 w4 hown4 hgr4
      have R4 := rdr_append (hrq.alloc _) (hO3.out.alloc _) hgr4 hg
      have K4 := kp_append (kp_alloc hG3.out _) (hO3.out.alloc _) hgr4 (Nat.le_refl _)
      have HO4 := Lib.hid hown4
      clear hown4 hgr4
      go_wp2_with fail
      go_roundw
      case rel => exact ⟨k, l ++ [y3], by go_num, by simp; omega, by rw [show (l ++ [y3]).length = l.length + 1 by simp]; exact HO4.out, all_snoc hL.out hi3, R4, K4⟩
      case measure => simp [intOf]
end Go.Proofs.Ytpngjofplbnkjaa
