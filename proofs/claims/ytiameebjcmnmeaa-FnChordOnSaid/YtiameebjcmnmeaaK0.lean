/- Keys, scales, chords and classes, in plain terms. Conditions: none. -/
import Derived.Test.YtiameebjcmnmeaaC1
namespace Go.Proofs.Ytiameebjcmnmeaa
set_option linter.unusedVariables false
def kOrd (s : Int) : Int := [1, 3, 5, 0, 2, 4, 6].getD s.toNat 0
def alterK (f s : Int) : Int := if kOrd s < f then 1 else if f < kOrd s - 6 then -1 else 0
theorem alterK_bd (f s : Int) : -1 ≤ alterK f s ∧ alterK f s ≤ 1 := by unfold alterK; split <;> (try split) <;> omega
def tonicK (f : Int) (m : Bool) : Int := if m then ((4 * f) % 7 + 5) % 7 else (4 * f) % 7
theorem tonicK_bd (f : Int) (m : Bool) : 0 ≤ tonicK f m ∧ tonicK f m ≤ 6 := by unfold tonicK; cases m <;> simp <;> omega
def keyPit (f pl : Int) : Pit := ⟨pl % 7, alterK f (pl % 7), pl / 7⟩
def scaleTo (f : Int) (m : Bool) (d st : Int) (k : Nat) : List Pit := (List.range k).map fun (i : Nat) => keyPit f (28 + tonicK f m + d + st * (i : Int))
theorem scaleTo_len (f : Int) (m : Bool) (d st : Int) (k : Nat) : (scaleTo f m d st k).length = k := by simp [scaleTo]
theorem scaleTo_succ (f : Int) (m : Bool) (d st : Int) (k : Nat) : scaleTo f m d st (k + 1) = scaleTo f m d st k ++ [keyPit f (28 + tonicK f m + d + st * k)] := by
  simp [scaleTo, List.range_succ]
def keyScale (f : Int) (m : Bool) : List Pit := if inB f (-7) 7 = true then scaleTo f m 0 1 8 else []
def chordOn (f : Int) (m : Bool) (d : Int) (s : Bool) : List Pit := if inB f (-7) 7 = true ∧ inB d 0 6 = true then scaleTo f m d 2 (if s then 4 else 3) else []
/-! Classes. -/
def hasCls (l : List Pit) (c : Nat) : Bool := l.any fun p => keyOf p % 12 == (c : Int)
def clsTo (l : List Pit) (k : Nat) : List Int := ((List.range k).filter (hasCls l)).map fun (c : Nat) => (c : Int)
theorem clsTo_succ (l : List Pit) (k : Nat) : clsTo l (k + 1) = if hasCls l k = true then clsTo l k ++ [(k : Int)] else clsTo l k := by
  unfold clsTo
  rw [List.range_succ, List.filter_append, List.map_append]
  cases h : hasCls l k <;> simp [h]
theorem clsTo_len (l : List Pit) (k : Nat) : (clsTo l k).length ≤ k := by
  unfold clsTo
  rw [List.length_map]
  exact Nat.le_trans (List.length_filter_le _ _) (by simp)
def keyCls (l : List Pit) : List Int := if arePits l 0 12 = true then clsTo l 12 else []
theorem hasCls_take_succ (l : List Pit) (k : Nat) (h : k < l.length) (c : Nat) : hasCls (l.take (k + 1)) c = (hasCls (l.take k) c || (keyOf l[k] % 12 == (c : Int))) := by
  unfold hasCls
  rw [List.take_succ_eq_append_getElem h, List.any_append]
  simp
/-! Chords. -/
def halvesOf (kind : Int) : List Int :=
  [[0, 4, 7], [0, 3, 7], [0, 3, 6], [0, 4, 8], [0, 4, 7, 10], [0, 4, 7, 11], [0, 3, 7, 10], [0, 3, 6, 10], [0, 3, 6, 9]].getD kind.toNat []
def chordTo (root : Pit) (hs : List Int) : Nat → Option (List Pit)
  | 0 => some []
  | k + 1 => (chordTo root hs k).bind fun out => (addIv root ⟨2 * (k : Int), hs.getD k 0⟩).map fun p => out ++ [p]
theorem chordTo_none (root : Pit) (hs : List Int) {k : Nat} (h : chordTo root hs k = none) : ∀ {n : Nat}, k ≤ n → chordTo root hs n = none
  | 0, hn => by have : k = 0 := by omega
                subst this; exact h
  | n + 1, hn => by
    by_cases he : k = n + 1
    · rw [← he]; exact h
    · have := chordTo_none root hs h (n := n) (by omega)
      simp [chordTo, this]
theorem chordTo_fail {root : Pit} {hs : List Int} {k : Nat} (h : addIv root ⟨2 * (k : Int), hs.getD k 0⟩ = none) {n : Nat} (hn : k < n) : chordTo root hs n = none := by
  refine chordTo_none root hs (k := k + 1) ?_ hn
  simp only [chordTo, h, Option.map_none]
  cases chordTo root hs k <;> rfl
theorem chordTo_step {root : Pit} {hs : List Int} {k : Nat} {out : List Pit} {p : Pit} (h : chordTo root hs k = some out) (hp : addIv root ⟨2 * (k : Int), hs.getD k 0⟩ = some p) : chordTo root hs (k + 1) = some (out ++ [p]) := by
  simp only [chordTo, h, hp, Option.bind_some, Option.map_some]
theorem chordTo_len {root : Pit} {hs : List Int} : ∀ {k : Nat} {out : List Pit}, chordTo root hs k = some out → out.length = k
  | 0, out, h => by simp only [chordTo, Option.some.injEq] at h; subst h; rfl
  | k + 1, out, h => by
    simp only [chordTo] at h
    cases h1 : chordTo root hs k with
    | none => rw [h1] at h; cases h
    | some o =>
      rw [h1] at h
      cases h2 : addIv root ⟨2 * (k : Int), hs.getD k 0⟩ with
      | none => simp only [h2, Option.bind_some, Option.map_none] at h; cases h
      | some p =>
        simp only [h2, Option.bind_some, Option.map_some, Option.some.injEq] at h
        subst h
        simp [chordTo_len h1]
def chordOf (root : Pit) (kind : Int) : Option (List Pit) := if pitchValid root = true ∧ inB kind 0 8 = true then chordTo root (halvesOf kind) (halvesOf kind).length else none
theorem halvesOf_len {kind : Int} (h : inB kind 0 8 = true) : (halvesOf kind).length = if kind < 4 then 3 else 4 := by
  obtain ⟨h1, h2⟩ := inB_iff.1 h
  have : kind = 0 ∨ kind = 1 ∨ kind = 2 ∨ kind = 3 ∨ kind = 4 ∨ kind = 5 ∨ kind = 6 ∨ kind = 7 ∨ kind = 8 := by omega
  rcases this with rfl | rfl | rfl | rfl | rfl | rfl | rfl | rfl | rfl <;> rfl
theorem chordOf_len {root : Pit} {kind : Int} {out : List Pit} (h : chordOf root kind = some out) : out.length ≤ 4 := by
  unfold chordOf at h
  split at h
  · rename_i hc
    rw [chordTo_len h, halvesOf_len hc.2]
    split <;> omega
  · cases h
/-! What the laws say of them. -/
theorem key_cases {f : Int} (h : inB f (-7) 7 = true) : f = -7 ∨ f = -6 ∨ f = -5 ∨ f = -4 ∨ f = -3 ∨ f = -2 ∨ f = -1 ∨ f = 0 ∨ f = 1 ∨ f = 2 ∨ f = 3 ∨ f = 4 ∨ f = 5 ∨ f = 6 ∨ f = 7 := by
  have := inB_iff.1 h
  omega
def inKey (f : Int) (p : Pit) : Bool := inB f (-7) 7 && pitchValid p && decide (p.alter = alterK f p.step)
theorem minorMajor {f : Int} (h : inB f (-7) 7 = true) : keyCls (keyScale f false) = keyCls (keyScale f true) ∧ (keyScale f true).all (inKey f) = true ∧
    (pk (keyScale f true) 0 - pk (keyScale f false) 0 = 9 ∨ pk (keyScale f true) 0 - pk (keyScale f false) 0 = -3) := by
  rcases key_cases h with rfl | rfl | rfl | rfl | rfl | rfl | rfl | rfl | rfl | rfl | rfl | rfl | rfl | rfl | rfl <;> decide
end Go.Proofs.Ytiameebjcmnmeaa
