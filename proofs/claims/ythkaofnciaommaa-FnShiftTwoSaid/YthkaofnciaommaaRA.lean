/- Two moves are one: the plain law. Conditions: none. -/
import Derived.Test.YthkaofnciaommaaR8
namespace Go.Proofs.Ythkaofnciaommaa
open Go.RowKit
set_option linter.unusedSimpArgs false
set_option linter.unusedVariables false
set_option maxHeartbeats 2000000
theorem shiftN_two {n m r : Nt} {i j k : Iv} (h1 : shiftN i n = some m) (h2 : shiftN j m = some r) (hk : ivValid k = true) (hs : k.steps = i.steps + j.steps) (hh : k.halves = i.halves + j.halves) : shiftN k n = some r := by
  obtain ⟨a1, a2, a3, a4, a5⟩ := shiftN_keep h1
  obtain ⟨b1, b2, b3, b4, b5⟩ := shiftN_keep h2
  cases hr : n.rest
  · have e := addIv_two (a5 hr) (b5 (a1.trans hr)) hk hs hh
    unfold shiftN
    rw [hr, e]
    obtain ⟨r1, r2, r3, r4⟩ := r
    obtain ⟨n1, n2, n3, n4⟩ := n
    dsimp only at *
    subst b1 b2 b3 a1 a2 a3
    simp [hr]
  · have := a4 hr
    subst this
    have := b4 hr
    subst this
    unfold shiftN
    rw [if_pos hr]
theorem shiftL_two {i j k : Iv} (hk : ivValid k = true) (hs : k.steps = i.steps + j.steps) (hh : k.halves = i.halves + j.halves) : ∀ {ns m r : List Nt}, shiftL i ns = some m → shiftL j m = some r → shiftL k ns = some r := by
  intro ns
  induction ns with
  | nil => intro m r h1 h2; simp [shiftL] at h1; subst h1; simp [shiftL] at h2; subst h2; rfl
  | cons a ns ih =>
    intro m r h1 h2
    simp only [shiftL] at h1
    split at h1
    · rename_i x xs e1 e2
      cases h1
      simp only [shiftL] at h2
      split at h2
      · rename_i y ys f1 f2
        cases h2
        simp only [shiftL, shiftN_two e1 f1 hk hs hh, ih e2 f2]
      · cases h2
    · cases h1
theorem shiftV_two {i j k : Iv} {ns m r : List Nt} (hk : ivValid k = true) (hs : k.steps = i.steps + j.steps) (hh : k.halves = i.halves + j.halves) (h1 : shiftV ns i = some m) (h2 : shiftV m j = some r) : shiftV ns k = some r := by
  obtain ⟨a1, a2, a3⟩ := shiftV_some h1
  obtain ⟨b1, b2, b3⟩ := shiftV_some h2
  unfold shiftV
  rw [if_pos ⟨a1, hk⟩]
  exact shiftL_two hk hs hh a3 b3
theorem iv35 : ivValid ⟨3, 5⟩ = true := by decide
end Go.Proofs.Ythkaofnciaommaa
