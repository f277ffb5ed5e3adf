/- Chords have one name. Conditions: none. -/
import Derived.Test.YtiameebjcmnmeaaT8
namespace Go.Proofs.Ytiameebjcmnmeaa
open Go.RowKit
set_option linter.unusedSimpArgs false
set_option linter.unusedVariables false
theorem sameT_iff {a b : List Pit} : sameT a b = true ↔ (∀ p ∈ a, hasT b p = true) ∧ ∀ p ∈ b, hasT a p = true := by
  unfold sameT
  rw [Bool.and_eq_true, List.all_eq_true, List.all_eq_true]
theorem hasT_trans {a b : List Pit} {p : Pit} (h : hasT a p = true) (hb : ∀ q ∈ a, hasT b q = true) : hasT b p = true := by
  obtain ⟨q, hq, e1, e2⟩ := hasT_iff.1 h
  obtain ⟨r, hr, e3, e4⟩ := hasT_iff.1 (hb q hq)
  exact hasT_iff.2 ⟨r, hr, e3.trans e1, e4.trans e2⟩
theorem sameT_trans {a b c : List Pit} (h1 : sameT a b = true) (h2 : sameT b c = true) : sameT a c = true := by
  rw [sameT_iff] at h1 h2 ⊢
  exact ⟨fun p hp => hasT_trans (h1.1 p hp) h2.1, fun p hp => hasT_trans (h2.2 p hp) h1.2⟩
theorem sameT_symm {a b : List Pit} (h : sameT a b = true) : sameT b a = true := by
  rw [sameT_iff] at h ⊢
  exact ⟨h.2, h.1⟩
theorem sameT_refl (a : List Pit) : sameT a a = true := sameT_iff.2 ⟨fun p hp => hasT_iff.2 ⟨p, hp, rfl, rfl⟩, fun p hp => hasT_iff.2 ⟨p, hp, rfl, rfl⟩⟩
theorem pit_eq {p q : Pit} (hp : pitchValid p = true) (hq : pitchValid q = true) (h1 : pitPlace p = pitPlace q) (h2 : keyOf p = keyOf q) : p = q := by
  have e1 := pitchW_of hp
  have e2 := pitchW_of hq
  rw [h1, h2, e2] at e1
  exact (Option.some.inj e1).symm
theorem chord_dom {root : Pit} {kind : Int} {t : List Pit} (h : chordOf root kind = some t) : pitchValid root = true ∧ inB kind 0 8 = true := by
  unfold chordOf at h
  split at h
  · assumption
  · cases h
theorem chord_len {root : Pit} {kind : Int} {t : List Pit} (h : chordOf root kind = some t) : t.length = (halvesOf kind).length := chordTo_len (chordOf_some h)
theorem chord_len34 {root : Pit} {kind : Int} {t : List Pit} (h : chordOf root kind = some t) : t.length = 3 ∨ t.length = 4 := by
  rw [chord_len h, halvesOf_len (chord_dom h).2]
  split <;> simp
theorem chord_get {root : Pit} {kind : Int} {t : List Pit} (h : chordOf root kind = some t) (j : Nat) (hj : j < t.length) : pitchValid t[j] = true ∧ pitPlace t[j] = pitPlace root + 2 * (j : Int) ∧ keyOf t[j] = keyOf root + (halvesOf kind).getD j 0 := by
  obtain ⟨_, _, h3, h4, h5⟩ := addIv_some (chordTo_get (chordOf_some h) j hj)
  exact ⟨h3, h4, h5⟩
theorem halves_zero {kind : Int} (h : inB kind 0 8 = true) : (halvesOf kind).getD 0 0 = 0 := by
  obtain ⟨n, rfl⟩ := Int.eq_ofNat_of_zero_le (inB_iff.1 h).1
  have h8 : n ≤ 8 := by have := (inB_iff.1 h).2; omega
  have h9 : n = 0 ∨ n = 1 ∨ n = 2 ∨ n = 3 ∨ n = 4 ∨ n = 5 ∨ n = 6 ∨ n = 7 ∨ n = 8 := by omega
  rcases h9 with rfl | rfl | rfl | rfl | rfl | rfl | rfl | rfl | rfl <;> rfl
theorem chord_zero {root : Pit} {kind : Int} {t : List Pit} (h : chordOf root kind = some t) (h0 : 0 < t.length) : t[0] = root := by
  obtain ⟨h1, h2, h3⟩ := chord_get h 0 h0
  rw [halves_zero (chord_dom h).2] at h3
  exact pit_eq h1 (chord_dom h).1 (by omega) (by omega)
theorem chord_alt {r r' : Pit} {k k' : Int} {t t' : List Pit} (h : chordOf r k = some t) (h' : chordOf r' k' = some t') (hs : r.step = r'.step) (j : Nat) (hj : j < t.length) (hj' : j < t'.length) :
    t[j].step = t'[j].step ∧ t[j].alter - t'[j].alter = (r.alter - r'.alter) + ((halvesOf k).getD j 0 - (halvesOf k').getD j 0) := by
  obtain ⟨a1, a2, a3⟩ := chord_get h j hj
  obtain ⟨b1, b2, b3⟩ := chord_get h' j hj'
  have c1 := (chord_dom h).1
  have c2 := (chord_dom h').1
  have e1 := (chord_tone h j hj).1
  have e2 := (chord_tone h' j hj').1
  have es : t[j].step = t'[j].step := by rw [e1, e2, hs]
  refine ⟨es, ?_⟩
  unfold pitPlace at a2 b2
  unfold keyOf at a3 b3
  rw [if_pos a1, if_pos c1] at a2 a3
  rw [if_pos b1, if_pos c2] at b2 b3
  rw [es, hs] at a2 a3
  omega
theorem halves_inj {k k' : Int} (h : inB k 0 8 = true) (h' : inB k' 0 8 = true) (hl : (halvesOf k).length = (halvesOf k').length) (hh : ∀ j, j < 4 → (halvesOf k).getD j 0 = (halvesOf k').getD j 0) : k = k' := by
  obtain ⟨n, rfl⟩ := Int.eq_ofNat_of_zero_le (inB_iff.1 h).1
  obtain ⟨m, rfl⟩ := Int.eq_ofNat_of_zero_le (inB_iff.1 h').1
  have h8 : n < 9 := by have := (inB_iff.1 h).2; omega
  have h8' : m < 9 := by have := (inB_iff.1 h').2; omega
  have key : ∀ n : Nat, n < 9 → ∀ m : Nat, m < 9 → ((halvesOf (n : Int)).length == (halvesOf (m : Int)).length && (halvesOf (n : Int)).getD 1 0 == (halvesOf (m : Int)).getD 1 0 && (halvesOf (n : Int)).getD 2 0 == (halvesOf (m : Int)).getD 2 0 && (halvesOf (n : Int)).getD 3 0 == (halvesOf (m : Int)).getD 3 0) = true → n = m := by decide
  rw [key n h8 m h8' (by rw [hl, hh 1 (by omega), hh 2 (by omega), hh 3 (by omega)]; simp)]
theorem chord_unique {r r' : Pit} {k k' : Int} {t t' : List Pit} (h : chordOf r k = some t) (h' : chordOf r' k' = some t') (hs : sameT t t' = true) : r.step = r'.step ∧ r.alter = r'.alter ∧ k = k' := by
  rw [sameT_iff] at hs
  have hl := chord_len34 h
  have hl' := chord_len34 h'
  have find : ∀ j (hj : j < t.length), ∃ (i : Nat) (hi : i < t'.length), t'[i].step = t[j].step ∧ t'[i].alter = t[j].alter := fun j hj => by
    obtain ⟨q, hq, e⟩ := hasT_iff.1 (hs.1 t[j] (List.getElem_mem hj))
    obtain ⟨i, hi, rfl⟩ := List.getElem_of_mem hq
    exact ⟨i, hi, e⟩
  have find' : ∀ j (hj : j < t'.length), ∃ (i : Nat) (hi : i < t.length), t[i].step = t'[j].step ∧ t[i].alter = t'[j].alter := fun j hj => by
    obtain ⟨q, hq, e⟩ := hasT_iff.1 (hs.2 t'[j] (List.getElem_mem hj))
    obtain ⟨i, hi, rfl⟩ := List.getElem_of_mem hq
    exact ⟨i, hi, e⟩
  have v1 := pitchValid_iff.1 (chord_dom h).1
  have v2 := pitchValid_iff.1 (chord_dom h').1
  have hst : r.step = r'.step := by
    obtain ⟨i, hi, e, _⟩ := find 0 (by omega)
    obtain ⟨j, hj, e', _⟩ := find' 0 (by omega)
    have a1 := (chord_tone h 0 (by omega)).1
    have a2 := (chord_tone h' i hi).1
    have a3 := (chord_tone h' 0 (by omega)).1
    have a4 := (chord_tone h j hj).1
    rw [a1, a2] at e
    rw [a3, a4] at e'
    have hi4 : i = 0 ∨ i = 1 ∨ i = 2 ∨ i = 3 := by omega
    have hj4 : j = 0 ∨ j = 1 ∨ j = 2 ∨ j = 3 := by omega
    clear a1 a2 a3 a4 find find'
    rcases hi4 with rfl | rfl | rfl | rfl <;> rcases hj4 with rfl | rfl | rfl | rfl <;> omega
  have hle : t.length = t'.length := by
    rcases hl with hl | hl <;> rcases hl' with hl' | hl'
    · omega
    · obtain ⟨i, hi, e, _⟩ := find' 3 (by omega)
      have a1 := (chord_tone h' 3 (by omega)).1
      have a2 := (chord_tone h i hi).1
      omega
    · obtain ⟨i, hi, e, _⟩ := find 3 (by omega)
      have a1 := (chord_tone h 3 (by omega)).1
      have a2 := (chord_tone h' i hi).1
      omega
    · omega
  have alt : ∀ j (hj : j < t.length) (hj' : j < t'.length), t[j].alter = t'[j].alter := fun j hj hj' => by
    obtain ⟨i, hi, e, e2⟩ := find j hj
    have := (chord_alt h h' hst j hj hj').1
    have := chord_inj h' i j hi hj' (by omega)
    subst this
    exact e2.symm
  have halt : r.alter = r'.alter := by
    have := alt 0 (by omega) (by omega)
    rwa [chord_zero h (by omega), chord_zero h' (by omega)] at this
  refine ⟨hst, halt, halves_inj (chord_dom h).2 (chord_dom h').2 (by rw [← chord_len h, ← chord_len h', hle]) (fun j hj => ?_)⟩
  by_cases hjl : j < t.length
  · have h1 := (chord_alt h h' hst j hjl (by omega)).2
    have h2 := alt j hjl (by omega)
    omega
  · have e1 : (halvesOf k).getD j 0 = 0 := by rw [List.getD, List.getElem?_eq_none (by rw [← chord_len h]; omega)]; rfl
    have e2 : (halvesOf k').getD j 0 = 0 := by rw [List.getD, List.getElem?_eq_none (by rw [← chord_len h']; omega)]; rfl
    rw [e1, e2]
theorem addIv_shift {p q : Pit} {i : Iv} (h : addIv p i = some q) (h0 : 0 ≤ i.steps) (h6 : i.steps ≤ 6) : addIv (rt p) i = some ⟨q.step, q.alter, q.octave - p.octave + 4⟩ := by
  obtain ⟨hp, hi, hq, hpl, hk⟩ := addIv_some h
  have v1 := pitchValid_iff.1 hp
  have v2 := pitchValid_iff.1 hq
  have hv1 : pitchValid (rt p) = true := pitchValid_iff.2 ⟨v1.1, v1.2.1, v1.2.2.1, v1.2.2.2.1, by unfold rt; dsimp only; omega, by unfold rt; dsimp only; omega⟩
  unfold pitPlace at hpl
  unfold keyOf at hk
  rw [if_pos hp, if_pos hq] at hpl hk
  have hv2 : pitchValid ⟨q.step, q.alter, q.octave - p.octave + 4⟩ = true := pitchValid_iff.2 ⟨v2.1, v2.2.1, v2.2.2.1, v2.2.2.2.1, by dsimp only; omega, by dsimp only; omega⟩
  have hw := pitchW_of hv2
  unfold addIv
  rw [if_pos ⟨hv1, hi⟩]
  have e1 : pitPlace (rt p) + i.steps = pitPlace ⟨q.step, q.alter, q.octave - p.octave + 4⟩ := by
    unfold pitPlace
    rw [if_pos hv1, if_pos hv2]
    unfold rt
    dsimp only
    omega
  have e2 : keyOf (rt p) + i.halves = keyOf ⟨q.step, q.alter, q.octave - p.octave + 4⟩ := by
    unfold keyOf
    rw [if_pos hv1, if_pos hv2]
    unfold rt
    dsimp only
    omega
  rw [e1, e2]
  exact hw
theorem chordTo_shift {root : Pit} {hs : List Int} : ∀ {k : Nat} {out : List Pit}, k ≤ 4 → chordTo root hs k = some out → chordTo (rt root) hs k = some (out.map fun q => ⟨q.step, q.alter, q.octave - root.octave + 4⟩)
  | 0, out, _, h => by simp only [chordTo, Option.some.injEq] at h; subst h; rfl
  | k + 1, out, hk, h => by
    simp only [chordTo] at h
    cases h1 : chordTo root hs k with
    | none => rw [h1] at h; cases h
    | some o =>
      rw [h1] at h
      cases h2 : addIv root ⟨2 * (k : Int), hs.getD k 0⟩ with
      | none => simp only [h2, Option.bind_some, Option.map_none] at h; cases h
      | some p =>
        simp only [h2, Option.bind_some, Option.map_some, Option.some.injEq] at h
        subst h
        rw [chordTo_step (chordTo_shift (by omega) h1) (addIv_shift h2 (by dsimp only; omega) (by dsimp only; omega)), List.map_append]
        rfl
theorem chord_rt {root : Pit} {kind : Int} {t : List Pit} (h : chordOf root kind = some t) : ∃ t0, chordOf (rt root) kind = some t0 ∧ sameT t0 t = true := by
  obtain ⟨hv, hk⟩ := chord_dom h
  have hl : (halvesOf kind).length ≤ 4 := by rw [← chord_len h]; have := chord_len34 h; omega
  have hc := chordTo_shift hl (chordOf_some h)
  refine ⟨t.map fun q => ⟨q.step, q.alter, q.octave - root.octave + 4⟩, ?_, ?_⟩
  · have v1 := pitchValid_iff.1 hv
    have hv1 : pitchValid (rt root) = true := pitchValid_iff.2 ⟨v1.1, v1.2.1, v1.2.2.1, v1.2.2.2.1, by unfold rt; dsimp only; omega, by unfold rt; dsimp only; omega⟩
    unfold chordOf
    rw [if_pos ⟨hv1, hk⟩]
    exact hc
  · rw [sameT_iff]
    constructor
    · intro p hp
      obtain ⟨q, hq, rfl⟩ := List.mem_map.1 hp
      exact hasT_iff.2 ⟨q, hq, rfl, rfl⟩
    · intro p hp
      exact hasT_iff.2 ⟨_, List.mem_map.2 ⟨p, hp, rfl⟩, rfl, rfl⟩
theorem hit_root {l t : List Pit} {root : Pit} {kind : Int} (h : chordOf root kind = some t) (hs : sameT t l = true) : ∃ j, j < 9 * l.length ∧ hitB l j = true := by
  obtain ⟨hv, hk⟩ := chord_dom h
  have h34 := chord_len34 h
  obtain ⟨q, hq, e1, e2⟩ := hasT_iff.1 ((sameT_iff.1 hs).1 t[0] (List.getElem_mem (by omega)))
  rw [chord_zero h (by omega)] at e1 e2
  obtain ⟨i, hi, rfl⟩ := List.getElem_of_mem hq
  obtain ⟨n, rfl⟩ := Int.eq_ofNat_of_zero_le (inB_iff.1 hk).1
  have hn : n ≤ 8 := by have := (inB_iff.1 hk).2; omega
  obtain ⟨t0, h0, hs0⟩ := chord_rt h
  refine ⟨9 * i + n, by omega, ?_⟩
  unfold hitB
  rw [tonesJ_at hi hn, show rt l[i] = rt root by unfold rt; rw [e1, e2], h0]
  exact sameT_trans hs0 hs
theorem nameJ_hits {l : List Pit} (ha : arePits l 1 12 = true) {j : Nat} (hj : j < 9 * l.length) (hh : hitB l j = true) : ∃ j', nameJ l = some j' := by
  cases hn : nameJ l with
  | some j' => exact ⟨j', rfl⟩
  | none =>
    unfold nameJ at hn
    rw [if_pos ha, List.find?_eq_none] at hn
    exact absurd hh (hn j (List.mem_range.2 hj))
theorem nameV_named {l : List Pit} (ha : arePits l 1 12 = true) {j : Nat} (hj : j < 9 * l.length) (hh : hitB l j = true) : ∃ (s a : Int) (kind n : Nat), nameV l = .tuple #[.agg #[.int .i64 s, .int .i64 a, .int .i64 4], .int .i64 kind, .int .i64 n, .bool true] := by
  obtain ⟨j', hn⟩ := nameJ_hits ha hj hh
  unfold nameV
  rw [hn]
  exact ⟨_, _, _, _, rfl⟩
theorem name_of {l t : List Pit} {root : Pit} {kind : Int} {n : Nat} (h : chordOf root kind = some t) (hl : arePits l 1 12 = true) (hs : sameT t l = true) (hn : n < t.length) (hlow : clsB t[n] (lowP l) = true) :
    nameV l = .tuple #[.agg #[.int .i64 root.step, .int .i64 root.alter, .int .i64 4], .int .i64 kind, .int .i64 n, .bool true] := by
  obtain ⟨j0, hj0, hh0⟩ := hit_root h hs
  obtain ⟨j, hn'⟩ := nameJ_hits hl hj0 hh0
  obtain ⟨-, hlt, hh⟩ := nameJ_inv hn'
  have hk : j / 9 < l.length := by omega
  have hT : tonesJ l j = chordOf (rt l[j / 9]) ((j % 9 : Nat) : Int) := by
    unfold tonesJ
    rw [List.getD, List.getElem?_eq_getElem hk]
    rfl
  cases ht : chordOf (rt l[j / 9]) ((j % 9 : Nat) : Int) with
  | none =>
    unfold hitB at hh
    rw [hT, ht] at hh
    cases hh
  | some tj =>
    have hsj : sameT tj l = true := by
      unfold hitB at hh
      rw [hT, ht] at hh
      exact hh
    obtain ⟨u1, u2, u3⟩ := chord_unique ht h (sameT_trans hsj (sameT_symm hs))
    have hlen : tj.length = t.length := by rw [chord_len ht, chord_len h, u3]
    have hal := chord_alt ht h u1 n (by omega) hn
    rw [u2, u3] at hal
    have hc : clsB (tj[n]'(by omega)) (lowP l) = true := by
      rw [clsB_iff] at hlow ⊢
      exact ⟨hal.1.trans hlow.1, by have := hal.2; omega⟩
    unfold nameV
    rw [hn']
    dsimp only
    rw [hT, ht, List.getD, List.getElem?_eq_getElem hk]
    show yesName l[j / 9] (j % 9) (atI tj (lowP l)) = _
    rw [atI_eq ht (by omega) hc]
    unfold yesName
    rw [u3, show l[j / 9].step = root.step from u1, show l[j / 9].alter = root.alter from u2]
theorem lowTo_first {l : List Pit} (h : ∀ j (hj : j < l.length), ¬ keyOf l[j] < keyOf (l[0]'(by omega))) : ∀ k, k ≤ l.length → lowTo l k = 0
  | 0, _ => rfl
  | k + 1, hk => by
    have ih := lowTo_first h k (by omega)
    rw [lowTo_succ l k (by omega) (by omega)]
    split
    · rename_i hc
      simp only [ih] at hc
      exact absurd hc (h k (by omega))
    · exact ih
theorem lowP_first {l : List Pit} (h0 : 0 < l.length) (h : ∀ j (hj : j < l.length), ¬ keyOf l[j] < keyOf (l[0]'(by omega))) : lowP l = l[0] := by
  rw [lowP_get h0]
  simp only [lowTo_first h _ (Nat.le_refl _)]
theorem halves_up {k : Int} (h : inB k 0 8 = true) : ∀ j, j + 1 < (halvesOf k).length → (halvesOf k).getD (j + 1) 0 - (halvesOf k).getD j 0 = 3 ∨ (halvesOf k).getD (j + 1) 0 - (halvesOf k).getD j 0 = 4 := by
  obtain ⟨n, rfl⟩ := Int.eq_ofNat_of_zero_le (inB_iff.1 h).1
  have h8 : n < 9 := by have := (inB_iff.1 h).2; omega
  have key : ∀ n : Nat, n < 9 → ∀ j : Nat, j < 3 → j + 1 < (halvesOf (n : Int)).length → (halvesOf (n : Int)).getD (j + 1) 0 - (halvesOf (n : Int)).getD j 0 = 3 ∨ (halvesOf (n : Int)).getD (j + 1) 0 - (halvesOf (n : Int)).getD j 0 = 4 := by decide
  intro j hj
  have : j < 3 := by
    rw [halvesOf_len h] at hj
    split at hj <;> omega
  exact key n h8 j this hj
theorem halves_pos {k : Int} (h : inB k 0 8 = true) : ∀ j, j < (halvesOf k).length → 0 ≤ (halvesOf k).getD j 0 ∧ (halvesOf k).getD j 0 < 12 ∧ (0 < j → (halvesOf k).getD 1 0 ≤ (halvesOf k).getD j 0) := by
  obtain ⟨n, rfl⟩ := Int.eq_ofNat_of_zero_le (inB_iff.1 h).1
  have h8 : n < 9 := by have := (inB_iff.1 h).2; omega
  have key : ∀ n : Nat, n < 9 → ∀ j : Nat, j < 4 → j < (halvesOf (n : Int)).length → 0 ≤ (halvesOf (n : Int)).getD j 0 ∧ (halvesOf (n : Int)).getD j 0 < 12 ∧ (0 < j → (halvesOf (n : Int)).getD 1 0 ≤ (halvesOf (n : Int)).getD j 0) := by decide
  intro j hj
  have : j < 4 := by
    rw [halvesOf_len h] at hj
    split at hj <;> omega
  exact key n h8 j this hj
theorem name_chord {root : Pit} {kind : Int} {t : List Pit} (h : chordOf root kind = some t) :
    nameV t = .tuple #[.agg #[.int .i64 root.step, .int .i64 root.alter, .int .i64 4], .int .i64 kind, .int .i64 0, .bool true] := by
  have h34 := chord_len34 h
  have hp : arePits t 1 12 = true := arePits_iff.2 ⟨by omega, fun i hi => (chord_tone h i hi).2⟩
  refine name_of (n := 0) h hp (sameT_refl t) (by omega) ?_
  rw [lowP_first (by omega) (fun j hj => ?_)]
  · exact clsB_iff.2 ⟨rfl, rfl⟩
  · rw [(chord_get h j hj).2.2, (chord_get h 0 (by omega)).2.2, halves_zero (chord_dom h).2]
    have := (halves_pos (chord_dom h).2 j (by rw [← chord_len h]; exact hj)).1
    omega
theorem chord_thirds {root : Pit} {kind : Int} {t : List Pit} (h : chordOf root kind = some t) (k : Nat) (hk : k + 1 < t.length) :
    pitPlace t[k + 1] - pitPlace t[k] = 2 ∧ (keyOf t[k + 1] - keyOf t[k] = 3 ∨ keyOf t[k + 1] - keyOf t[k] = 4) := by
  obtain ⟨_, a2, a3⟩ := chord_get h (k + 1) hk
  obtain ⟨_, b2, b3⟩ := chord_get h k (by omega)
  have := halves_up (chord_dom h).2 k (by rw [← chord_len h]; exact hk)
  rw [a2, b2, a3, b3]
  omega
end Go.Proofs.Ytiameebjcmnmeaa
