/- Moving a voice back: the plain law. Conditions: none. -/
import Derived.Test.YthkaofnciaommaaN5
import Derived.Test.YthkaofnciaommaaN4
namespace Go.Proofs.Ythkaofnciaommaa
open Go.RowKit
set_option linter.unusedSimpArgs false
set_option linter.unusedVariables false
set_option maxHeartbeats 2000000
theorem pitchW_some {pl k : Int} {q : Pit} (h : pitchW pl k = some q) : pitchValid q = true ∧ pitPlace q = pl ∧ keyOf q = k := by
  unfold pitchW at h
  split at h
  · cases h
  · split at h
    · rename_i hn hv
      cases h
      refine ⟨hv, ?_, ?_⟩
      · unfold pitPlace
        rw [if_pos hv]
        dsimp only
        omega
      · rw [key_nat hv]
        dsimp only
        rw [show 7 * (pl / 7) + pl % 7 = pl by omega]
        omega
    · cases h
theorem pitchW_of {q : Pit} (h : pitchValid q = true) : pitchW (pitPlace q) (keyOf q) = some q := by
  have hk := key_nat h
  obtain ⟨s, a, o⟩ := q
  have hb := pitchValid_iff.1 h
  dsimp only at hb hk
  have hp : pitPlace ⟨s, a, o⟩ = 7 * o + s := by unfold pitPlace; rw [if_pos h]
  have e1 : (7 * o + s) % 7 = s := by omega
  have e2 : (7 * o + s) / 7 = o := by omega
  have e3 : keyOf ⟨s, a, o⟩ - natural (7 * o + s) = a := by omega
  unfold pitchW
  rw [hp, if_neg (by omega), e1, e2, e3, if_pos h]
theorem addIv_some {p q : Pit} {i : Iv} (h : addIv p i = some q) : pitchValid p = true ∧ ivValid i = true ∧ pitchValid q = true ∧ pitPlace q = pitPlace p + i.steps ∧ keyOf q = keyOf p + i.halves := by
  unfold addIv at h
  split at h
  · rename_i hv
    obtain ⟨h1, h2, h3⟩ := pitchW_some h
    exact ⟨hv.1, hv.2, h1, h2, h3⟩
  · cases h
theorem downIv_iff {i : Iv} : downIv i = true ↔ i.steps < 0 ∨ (i.steps = 0 ∧ i.halves < 0) := by simp [downIv]
theorem ivValid_neg {s h : Int} (hv : ivValid ⟨s, h⟩ = true) : ivValid ⟨-s, -h⟩ = true := by
  unfold ivValid at *
  simp only [Bool.and_eq_true, inB_iff] at hv ⊢
  refine ⟨⟨by omega, by omega⟩, ?_⟩
  have e : upIv ⟨-s, -h⟩ = upIv ⟨s, h⟩ := by
    by_cases D : downIv ⟨s, h⟩ = true
    · have D2 : ¬ downIv ⟨-s, -h⟩ = true := by rw [downIv_iff] at *; dsimp only at *; omega
      unfold upIv
      rw [if_pos D, if_neg D2]
    · by_cases D2 : downIv ⟨-s, -h⟩ = true
      · unfold upIv
        rw [if_pos D2, if_neg D]
        simp
      · have h0 : s = 0 ∧ h = 0 := by rw [downIv_iff] at *; dsimp only at *; omega
        obtain ⟨rfl, rfl⟩ := h0
        rfl
  unfold qualOf at *
  rw [e]
  exact hv.2
theorem back_of {i : Iv} (h : ivValid i = true) : backIv i = ⟨-i.steps, -i.halves⟩ := by unfold backIv; rw [if_pos h]
theorem addIv_back {p q : Pit} {i : Iv} (h : addIv p i = some q) : addIv q (backIv i) = some p := by
  obtain ⟨h1, h2, h3, h4, h5⟩ := addIv_some h
  rw [back_of h2]
  unfold addIv
  rw [if_pos ⟨h3, ivValid_neg h2⟩, h4, h5]
  dsimp only
  rw [show pitPlace p + i.steps + -i.steps = pitPlace p by omega, show keyOf p + i.halves + -i.halves = keyOf p by omega]
  exact pitchW_of h1
theorem addIv_inj {p p' q : Pit} {i : Iv} (h : addIv p i = some q) (h' : addIv p' i = some q) : p = p' := by
  have := (addIv_back h).symm.trans (addIv_back h')
  exact Option.some.inj this
theorem addIv_two {p q r : Pit} {i j k : Iv} (h1 : addIv p i = some q) (h2 : addIv q j = some r) (hk : ivValid k = true) (hs : k.steps = i.steps + j.steps) (hh : k.halves = i.halves + j.halves) : addIv p k = some r := by
  obtain ⟨a1, a2, a3, a4, a5⟩ := addIv_some h1
  obtain ⟨b1, b2, b3, b4, b5⟩ := addIv_some h2
  unfold addIv
  rw [if_pos ⟨a1, hk⟩, hs, hh, show pitPlace p + (i.steps + j.steps) = pitPlace r by omega, show keyOf p + (i.halves + j.halves) = keyOf r by omega]
  exact pitchW_of b3
theorem shiftN_back {n m : Nt} {i : Iv} (h : shiftN i n = some m) : shiftN (backIv i) m = some n := by
  unfold shiftN at h
  split at h
  · rename_i hr
    cases h
    unfold shiftN
    rw [if_pos hr]
  · rename_i hr
    split at h
    · rename_i q hq
      cases h
      unfold shiftN
      dsimp only
      rw [if_neg hr, addIv_back hq]
    · cases h
theorem shiftN_keep {n m : Nt} {i : Iv} (h : shiftN i n = some m) : m.rest = n.rest ∧ m.ticks = n.ticks ∧ m.tied = n.tied ∧ (n.rest = true → m = n) ∧ (n.rest = false → addIv n.tone i = some m.tone) := by
  unfold shiftN at h
  split at h
  · rename_i hr
    cases h
    exact ⟨rfl, rfl, rfl, fun _ => rfl, fun h0 => by rw [hr] at h0; cases h0⟩
  · rename_i hr
    split at h
    · rename_i q hq
      cases h
      exact ⟨rfl, rfl, rfl, fun h0 => absurd h0 hr, fun _ => hq⟩
    · cases h
theorem shiftL_back {i : Iv} : ∀ {ns out : List Nt}, shiftL i ns = some out → shiftL (backIv i) out = some ns := by
  intro ns
  induction ns with
  | nil => intro out h; simp [shiftL] at h; subst h; rfl
  | cons a ns ih =>
    intro out h
    simp only [shiftL] at h
    split at h
    · rename_i m ms h1 h2
      cases h
      simp only [shiftL, shiftN_back h1, ih h2]
    · cases h
theorem shiftL_ticks {i : Iv} : ∀ {ns out : List Nt}, shiftL i ns = some out → sumT out = sumT ns := by
  intro ns
  induction ns with
  | nil => intro out h; simp [shiftL] at h; subst h; rfl
  | cons a ns ih =>
    intro out h
    simp only [shiftL] at h
    split at h
    · rename_i m ms h1 h2
      cases h
      rw [sumT_cons, sumT_cons, ih h2, (shiftN_keep h1).2.1]
    · cases h
theorem shiftL_get {i : Iv} : ∀ {ns out : List Nt}, shiftL i ns = some out → ∀ (k : Nat) (hk : k < ns.length) (hk' : k < out.length), shiftN i ns[k] = some out[k] := by
  intro ns
  induction ns with
  | nil => intro out h k hk; simp at hk
  | cons a ns ih =>
    intro out h k hk hk'
    simp only [shiftL] at h
    split at h
    · rename_i m ms h1 h2
      cases h
      cases k with
      | zero => simpa using h1
      | succ k => simpa using ih h2 k (by simpa using hk) (by simpa using hk')
    · cases h
theorem shiftN_valid {n m : Nt} {i : Iv} (hn : noteValid n = true) (h : shiftN i n = some m) : noteValid m = true := by
  obtain ⟨k1, k2, k3, k4, k5⟩ := shiftN_keep h
  cases hr : n.rest
  · have hq := addIv_some (k5 hr)
    unfold noteValid at *
    rw [k2, k1, hr]
    rw [hr] at hn
    simp only [Bool.and_eq_true, Bool.false_eq_true, if_false] at hn ⊢
    exact ⟨hn.1, hq.2.2.1⟩
  · rw [k4 hr]; exact hn
theorem note_tied {n : Nt} (hn : noteValid n = true) (ht : n.tied = true) : n.rest = false := by
  cases hr : n.rest
  · rfl
  · unfold noteValid at hn
    rw [hr, ht] at hn
    simp at hn
theorem shiftL_valid {i : Iv} {ns out : List Nt} (hv : voiceValid ns = true) (h : shiftL i ns = some out) : voiceValid out = true := by
  have hl := shiftL_len h
  obtain ⟨h60, hok⟩ := voiceValid_iff.1 hv
  refine voiceValid_iff.2 ⟨by omega, fun k hk => ?_⟩
  have hk' : k < ns.length := by omega
  have g0 := shiftL_get h k hk' hk
  have hn := voiceValid_note hv k hk'
  obtain ⟨k1, k2, k3, k4, k5⟩ := shiftN_keep g0
  have o := hok k hk'
  unfold okAt at o ⊢
  rw [List.getElem?_eq_getElem hk'] at o
  rw [List.getElem?_eq_getElem hk]
  dsimp only at o ⊢
  rw [shiftN_valid hn g0, k3]
  cases ht : ns[k].tied
  · rfl
  · rw [ht, hn] at o
    by_cases h1 : k + 1 < ns.length
    · have h2 : k + 1 < out.length := by omega
      have g1 := shiftL_get h (k + 1) h1 h2
      obtain ⟨m1, m2, m3, m4, m5⟩ := shiftN_keep g1
      rw [List.getElem?_eq_getElem h1] at o
      rw [List.getElem?_eq_getElem h2]
      simp only [Bool.true_and, Bool.not_true, Bool.false_or, Bool.and_eq_true, Bool.not_eq_true', pitEq_iff] at o ⊢
      refine ⟨m1.trans o.1, ?_⟩
      have e1 := m5 o.1
      have e2 := k5 (note_tied hn ht)
      rw [o.2] at e1
      exact Option.some.inj (e1.symm.trans e2)
    · rw [List.getElem?_eq_none (by omega)] at o
      simp at o
theorem shiftV_some {i : Iv} {ns out : List Nt} (h : shiftV ns i = some out) : voiceValid ns = true ∧ ivValid i = true ∧ shiftL i ns = some out := by
  unfold shiftV at h
  split at h
  · rename_i hv; exact ⟨hv.1, hv.2, h⟩
  · cases h
theorem shiftV_back {i : Iv} {ns out : List Nt} (h : shiftV ns i = some out) : voiceValid out = true ∧ shiftV out (backIv i) = some ns := by
  obtain ⟨h1, h2, h3⟩ := shiftV_some h
  have hv := shiftL_valid h1 h3
  refine ⟨hv, ?_⟩
  unfold shiftV
  rw [if_pos ⟨hv, by rw [back_of h2]; exact ivValid_neg h2⟩]
  exact shiftL_back h3
end Go.Proofs.Ythkaofnciaommaa
