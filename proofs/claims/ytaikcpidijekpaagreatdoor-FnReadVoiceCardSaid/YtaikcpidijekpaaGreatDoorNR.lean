/- Words for the exact laws that hand back a voice. Conditions: none. -/
import Derived.Test.YtaikcpidijekpaaGreatDoorNQ
import Derived.Test.YtaikcpidijekpaaGreatDoorB9
namespace Go.Proofs.YtaikcpidijekpaaGreatDoor
open Go.RowKit
set_option linter.unusedSimpArgs false
set_option linter.unusedVariables false
set_option maxHeartbeats 4000000
def WPost (L : List Nt) (bb : Bool) (w : World) (e : Ending) (w' : World) : Prop :=
  ∃ v, e = .returned (.tuple #[v, .bool bb]) ∧ w'.ownsRow w.heap.size 42 6 v L.length (ntCells L) ∧ L.length ≤ 60 ∧ Below w.heap.size w w'
theorem bel_grown {B base e size n : Nat} {v : Value} {xs : List Value} {a w w' : World} (ha : Below B a w) (h : w.ownsRow base e size v n xs) (hk : w.grownBy w' v.ownBlock) (hb : B ≤ base) (hB : B ≤ w.heap.size) : Below B a w' :=
  ha.trans ⟨hk.os, hk.tape, hk.output, hk.size, fun i hi => hk.block i (by omega) (by
      intro hs
      have := (h.lt i hs.symm).1
      omega)⟩
theorem own_sep {base e size n base2 : Nat} {v u : Value} {xs : List Value} {w w' : World} (h : w.ownsRow base e size v n xs) (hk : w.grownBy w' u.ownBlock) (hu : ∀ b, u.ownBlock = some b → b < base2) (hb : base2 ≤ base) : w'.ownsRow base e size v n xs := by
  refine h.kept hk ?_
  cases hv : v.ownBlock with
  | none => exact .inl rfl
  | some k =>
    right
    intro hk2
    have h1 := (h.lt k hv).1
    have h2 := hu k hk2.symm
    omega
end Go.Proofs.YtaikcpidijekpaaGreatDoor
