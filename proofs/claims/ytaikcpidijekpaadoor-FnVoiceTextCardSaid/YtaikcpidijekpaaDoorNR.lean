/- Words for the exact laws that hand back a voice. Conditions: none. -/
import Derived.Test.YtaikcpidijekpaaDoorNQ
import Derived.Test.YtaikcpidijekpaaDoorB9
namespace Go.Proofs.YtaikcpidijekpaaDoor
open Go.RowKit
set_option linter.unusedSimpArgs false
set_option linter.unusedVariables false
set_option maxHeartbeats 4000000
def WPost (L : List Nt) (bb : Bool) (w : World) (e : Ending) (w' : World) : Prop :=
  ∃ v, e = .returned (.tuple #[v, .bool bb]) ∧ w'.ownsRow w.heap.size 29 6 v L.length (ntCells L) ∧ L.length ≤ 60 ∧ Below w.heap.size w w'
theorem bel_grown {B base e size n : Nat} {v : Value} {xs : List Value} {a w w' : World} (ha : Below B a w) (h : w.ownsRow base e size v n xs) (hk : w.grownBy w' v.ownBlock) (hb : B ≤ base) (hB : B ≤ w.heap.size) : Below B a w' :=
  ha.trans ⟨hk.os, hk.tape, hk.output, hk.size, fun i hi => hk.block i (by omega) (by
      intro hs
      have := (h.lt i hs.symm).1
      omega)⟩
theorem own_sep {base e size n base2 : Nat} {v u : Value} {xs : List Value} {w w' : World} (h : w.ownsRow base e size v n xs) (hk : w.grownBy w' u.ownBlock) (hu : ∀ b, u.ownBlock = some b → b < base2) (hb : base2 ≤ base) : w'.ownsRow base e size v n xs := by
  refine h.kept hk ?_
  cases hv : v.ownBlock with
  | none => exact .inl rfl
  | some k =>
    right
    intro hk2
    have h1 := (h.lt k hv).1
    have h2 := hu k hk2.symm
    omega
theorem c_eqNoteS_eq (u v : Value) (l : List Nt) (w : World) (ha : Rd w u 6 l.length (ntCells l)) (hb : Rd w v 6 l.length (ntCells l)) :
    Calls Tryd.prog 24 #[u, v] w fun e w' => e = .returned (.bool true) ∧ Below w.heap.size w w' := by
  have h := c_eqNoteS u v l l w ha hb
  rwa [show allEq l l = true from decide_eq_true rfl] at h
end Go.Proofs.YtaikcpidijekpaaDoor
