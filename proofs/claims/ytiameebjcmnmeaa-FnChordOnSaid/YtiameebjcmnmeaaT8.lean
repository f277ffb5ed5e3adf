/- The name of a chord in plain terms. Conditions: none. -/
import Derived.Test.YtiameebjcmnmeaaT3
import Derived.Test.YtiameebjcmnmeaaK12
namespace Go.Proofs.Ytiameebjcmnmeaa
open Go.RowKit
set_option linter.unusedSimpArgs false
set_option linter.unusedVariables false
def zP : Pit := ⟨0, 0, 0⟩
def rt (p : Pit) : Pit := ⟨p.step, p.alter, 4⟩
def clsB (q p : Pit) : Bool := decide (q.step = p.step) && decide (q.alter = p.alter)
theorem clsB_iff {q p : Pit} : clsB q p = true ↔ q.step = p.step ∧ q.alter = p.alter := by
  unfold clsB
  rw [Bool.and_eq_true, decide_eq_true_eq, decide_eq_true_eq]
def lowTo (l : List Pit) : Nat → Nat
  | 0 => 0
  | k + 1 => if keyOf (l.getD k zP) < keyOf (l.getD (lowTo l k) zP) then k else lowTo l k
theorem lowTo_le (l : List Pit) (k : Nat) : lowTo l k ≤ k := by
  induction k with
  | zero => exact Nat.le_refl _
  | succ k ih => unfold lowTo; split <;> omega
theorem lowTo_succ (l : List Pit) (k : Nat) (h : k < l.length) (h' : lowTo l k < l.length) : lowTo l (k + 1) = if keyOf l[k] < keyOf l[lowTo l k] then k else lowTo l k := by
  have e : lowTo l (k + 1) = if keyOf (l.getD k zP) < keyOf (l.getD (lowTo l k) zP) then k else lowTo l k := rfl
  rw [e]
  simp [List.getD, h, h']
theorem lowTo_lt {l : List Pit} (h : 0 < l.length) {k : Nat} (hk : k ≤ l.length) : lowTo l k < l.length := by
  rcases k with _ | k
  · exact h
  · have e : lowTo l (k + 1) = if keyOf (l.getD k zP) < keyOf (l.getD (lowTo l k) zP) then k else lowTo l k := rfl
    have := lowTo_le l k
    rw [e]
    split <;> omega
def lowP (l : List Pit) : Pit := l.getD (lowTo l l.length) zP
theorem lowP_get {l : List Pit} (h : 0 < l.length) : lowP l = l[lowTo l l.length]'(lowTo_lt h (Nat.le_refl _)) := by
  unfold lowP
  rw [List.getD, List.getElem?_eq_getElem (lowTo_lt h (Nat.le_refl _))]
  rfl
theorem lowP_mem {l : List Pit} (h : 0 < l.length) : lowP l ∈ l := by
  rw [lowP_get h]
  exact List.getElem_mem _
def tonesJ (l : List Pit) (j : Nat) : Option (List Pit) := chordOf (rt (l.getD (j / 9) zP)) ((j % 9 : Nat) : Int)
def hitB (l : List Pit) (j : Nat) : Bool := match tonesJ l j with
  | some t => sameT t l
  | none => false
def atI (t : List Pit) (p : Pit) : Nat := t.findIdx fun q => clsB q p
def noName : Value := .tuple #[.agg #[.int .i64 0, .int .i64 0, .int .i64 0], .int .i64 (-1), .int .i64 (-1), .bool false]
def yesName (p : Pit) (k n : Nat) : Value := .tuple #[.agg #[.int .i64 p.step, .int .i64 p.alter, .int .i64 4], .int .i64 k, .int .i64 n, .bool true]
def nameJ (l : List Pit) : Option Nat := if arePits l 1 12 = true then (List.range (9 * l.length)).find? (hitB l) else none
def nameV (l : List Pit) : Value := match nameJ l with
  | some j => yesName (l.getD (j / 9) zP) (j % 9) (atI ((tonesJ l j).getD []) (lowP l))
  | none => noName
theorem nameV_bad {l : List Pit} (h : arePits l 1 12 = false) : nameV l = noName := by
  unfold nameV nameJ
  rw [if_neg (by rw [h]; simp)]
theorem nameJ_none {l : List Pit} (hno : ∀ j, j < 9 * l.length → hitB l j = false) : nameJ l = none := by
  unfold nameJ
  split
  · rw [List.find?_eq_none]
    intro j hj
    rw [hno j (List.mem_range.1 hj)]
    simp
  · rfl
theorem nameV_none {l : List Pit} (hno : ∀ j, j < 9 * l.length → hitB l j = false) : nameV l = noName := by
  unfold nameV
  rw [nameJ_none hno]
theorem nameJ_some {l : List Pit} (ha : arePits l 1 12 = true) {j : Nat} (hj : j < 9 * l.length) (hno : ∀ j', j' < j → hitB l j' = false) (hh : hitB l j = true) : nameJ l = some j := by
  unfold nameJ
  rw [if_pos ha, List.find?_range_eq_some]
  exact ⟨hh, List.mem_range.2 hj, fun i hi => by rw [hno i hi]; rfl⟩
theorem nameJ_inv {l : List Pit} {j : Nat} (h : nameJ l = some j) : arePits l 1 12 = true ∧ j < 9 * l.length ∧ hitB l j = true := by
  unfold nameJ at h
  split at h
  · rename_i ha
    rw [List.find?_range_eq_some] at h
    exact ⟨ha, List.mem_range.1 h.2.1, h.1⟩
  · cases h
theorem tonesJ_at {l : List Pit} {k kind : Nat} (hk : k < l.length) (hkind : kind ≤ 8) : tonesJ l (9 * k + kind) = chordOf (rt l[k]) (kind : Int) := by
  unfold tonesJ
  rw [show (9 * k + kind) / 9 = k by omega, show (9 * k + kind) % 9 = kind by omega, List.getD, List.getElem?_eq_getElem hk]
  rfl
theorem hitB_miss {l : List Pit} {k kind : Nat} (hk : k < l.length) (hkind : kind ≤ 8) (h : ∀ t, chordOf (rt l[k]) (kind : Int) = some t → sameT t l = false) : hitB l (9 * k + kind) = false := by
  unfold hitB
  rw [tonesJ_at hk hkind]
  cases ho : chordOf (rt l[k]) (kind : Int) with
  | none => rfl
  | some t => exact h t ho
theorem hitB_next {l : List Pit} {m : Nat} (h : ∀ j, j < m → hitB l j = false) (hm : hitB l m = false) : ∀ j, j < m + 1 → hitB l j = false := fun j hj => by
  rcases Nat.lt_succ_iff_lt_or_eq.1 hj with h1 | rfl
  · exact h j h1
  · exact hm
theorem chord_tone {root : Pit} {kind : Int} {t : List Pit} (h : chordOf root kind = some t) (j : Nat) (hj : j < t.length) : t[j].step = (root.step + 2 * (j : Int)) % 7 ∧ pitchValid t[j] = true := by
  have h1 := chordTo_get (chordOf_some h) j hj
  obtain ⟨hp, _, hq, hpl, _⟩ := addIv_some h1
  refine ⟨?_, hq⟩
  unfold pitPlace at hpl
  rw [if_pos hp, if_pos hq] at hpl
  have := pitchValid_iff.1 hp
  have := pitchValid_iff.1 hq
  dsimp only at hpl
  omega
theorem chord_inj {root : Pit} {kind : Int} {t : List Pit} (h : chordOf root kind = some t) (i j : Nat) (hi : i < t.length) (hj : j < t.length) (he : t[i].step = t[j].step) : i = j := by
  have h1 := (chord_tone h i hi).1
  have h2 := (chord_tone h j hj).1
  have := chordOf_len h
  omega
theorem chord_valid {root : Pit} {kind : Int} {t : List Pit} (h : chordOf root kind = some t) : ∀ p ∈ t, pitchValid p = true := fun p hp => by
  obtain ⟨i, hi, rfl⟩ := List.getElem_of_mem hp
  exact (chord_tone h i hi).2
def atTo (t : List Pit) (p : Pit) : Nat → Int
  | 0 => -1
  | k + 1 => if clsB (t.getD k zP) p = true then (k : Int) else atTo t p k
theorem atTo_succ {t : List Pit} {p : Pit} {k : Nat} (h : k < t.length) : atTo t p (k + 1) = if clsB t[k] p = true then (k : Int) else atTo t p k := by
  have e : atTo t p (k + 1) = if clsB (t.getD k zP) p = true then (k : Int) else atTo t p k := rfl
  rw [e]
  simp [List.getD, h]
theorem atTo_eq {t : List Pit} {p : Pit} {n : Nat} (hn : n < t.length) (hc : clsB t[n] p = true) (hu : ∀ m (hm : m < t.length), m ≠ n → clsB t[m] p = false) : atTo t p t.length = n := by
  have key : ∀ k, k ≤ t.length → atTo t p k = if n < k then (n : Int) else -1 := by
    intro k
    induction k with
    | zero => intro _; rw [if_neg (by omega)]; rfl
    | succ k ih =>
      intro hk
      rw [atTo_succ (by omega), ih (by omega)]
      by_cases he : k = n
      · subst he
        rw [if_pos hc, if_pos (by omega)]
      · rw [hu k (by omega) he]
        by_cases h2 : n < k
        · rw [if_neg (by simp), if_pos h2, if_pos (by omega)]
        · rw [if_neg (by simp), if_neg h2, if_neg (by omega)]
  rw [key _ (Nat.le_refl _), if_pos hn]
theorem chord_only {root : Pit} {kind : Int} {t : List Pit} (h : chordOf root kind = some t) {p : Pit} {n : Nat} (hn : n < t.length) (hc : clsB t[n] p = true) : ∀ m (hm : m < t.length), m ≠ n → clsB t[m] p = false := fun m hm hne => by
  cases hb : clsB t[m] p
  · rfl
  · exact absurd (chord_inj h m n hm hn ((clsB_iff.1 hb).1.trans (clsB_iff.1 hc).1.symm)) hne
theorem atI_eq {root : Pit} {kind : Int} {t : List Pit} (h : chordOf root kind = some t) {p : Pit} {n : Nat} (hn : n < t.length) (hc : clsB t[n] p = true) : atI t p = n := by
  unfold atI
  rw [List.findIdx_eq hn]
  exact ⟨hc, fun j hj => chord_only h hn hc j (by omega) (by omega)⟩
theorem hit_low {t l : List Pit} (hl : 0 < l.length) (hs : sameT t l = true) : ∃ (n : Nat) (hn : n < t.length), clsB t[n] (lowP l) = true := by
  unfold sameT at hs
  rw [Bool.and_eq_true] at hs
  obtain ⟨q, hq, e⟩ := hasT_iff.1 (List.all_eq_true.1 hs.2 _ (lowP_mem hl))
  obtain ⟨n, hn, rfl⟩ := List.getElem_of_mem hq
  exact ⟨n, hn, clsB_iff.2 e⟩
theorem nameV_at {l : List Pit} {k kind : Nat} {t : List Pit} {n : Nat} (ha : arePits l 1 12 = true) (hk : k < l.length) (hkind : kind ≤ 8) (hno : ∀ j, j < 9 * k + kind → hitB l j = false) (ht : chordOf (rt l[k]) (kind : Int) = some t)
    (hs : sameT t l = true) (hn : n < t.length) (hc : clsB t[n] (lowP l) = true) : nameV l = yesName l[k] kind n := by
  have hT := tonesJ_at hk hkind
  have hh : hitB l (9 * k + kind) = true := by
    unfold hitB
    rw [hT, ht]
    exact hs
  unfold nameV
  rw [nameJ_some ha (by omega) hno hh]
  dsimp only
  rw [hT, ht, show (9 * k + kind) / 9 = k by omega, show (9 * k + kind) % 9 = kind by omega, List.getD, List.getElem?_eq_getElem hk]
  show yesName l[k] kind (atI t (lowP l)) = _
  rw [atI_eq ht hn hc]
theorem nameV_form (l : List Pit) : ∃ a b c x y t, nameV l = .tuple #[.agg #[.int .i64 a, .int .i64 b, .int .i64 c], .int .i64 x, .int .i64 y, .bool t] := by
  unfold nameV
  split
  · exact ⟨_, _, _, _, _, _, rfl⟩
  · exact ⟨_, _, _, _, _, _, rfl⟩
end Go.Proofs.Ytiameebjcmnmeaa
