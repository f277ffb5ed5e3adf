/- Contracts of the functions that read voices, and of those that compare them. Conditions: none. -/
import Derived.Test.YtaikcpidijekpaaGreatDoorB4
namespace Go.Proofs.YtaikcpidijekpaaGreatDoor
open Go.RowKit
set_option linter.unusedSimpArgs false
set_option linter.unusedVariables false
set_option maxHeartbeats 1000000

/-- The cells of a slice that came in, in a later world. -/
theorem rd_later {w wr : World} {b off : Nat} {xs : List Value} (hbl : Below w.heap.size w wr) (hcc : ∀ j u, xs[j]? = some u → w.cell? ⟨b, off + j, none⟩ = some u) :
    ∀ j u, xs[j]? = some u → wr.cell? ⟨b, off + j, none⟩ = some u := fun j u hu => below_cell hbl (hcc j u hu)

def allEq (a b : List Nt) : Bool := decide (a = b)
theorem ne_at {a b : List Nt} {k : Nat} (h1 : k < a.length) (h2 : k < b.length) (h : ntEq a[k] b[k] = false) : allEq a b = false := by
  simp only [allEq, decide_eq_false_iff_not]
  intro e
  subst e
  rw [ntEq_iff.2 rfl] at h
  cases h
theorem eq_all {a b : List Nt} (hl : a.length = b.length) (h : ∀ i (h1 : i < a.length) (h2 : i < b.length), ntEq a[i] b[i] = true) : allEq a b = true := by
  simp only [allEq, decide_eq_true_eq]
  exact List.ext_getElem hl fun i h1 h2 => ntEq_iff.1 (h i h1 h2)
theorem run_neq_nt (xr : Bool) (xs xa xo xt : Int) (xd yr : Bool) (ys ya yo yt : Int) (yd : Bool) (w : World) :
    (binOp .neq 42 (.agg #[.bool xr, .int .i64 xs, .int .i64 xa, .int .i64 xo, .int .i64 xt, .bool xd]) (.agg #[.bool yr, .int .i64 ys, .int .i64 ya, .int .i64 yo, .int .i64 yt, .bool yd])).run Tryz.prog w =
      .ok (.bool (!ntEq ⟨xr, ⟨xs, xa, xo⟩, xt, xd⟩ ⟨yr, ⟨ys, ya, yo⟩, yt, yd⟩)) w := by
  by_cases h1 : xr = yr
  · by_cases h2 : xs = ys
    · by_cases h3 : xa = ya
      · by_cases h4 : xo = yo
        · by_cases h5 : xt = yt
          · by_cases h6 : xd = yd <;> simp [go_sem, ntEq, pitEq, h1, h2, h3, h4, h5, h6]
          · simp [go_sem, ntEq, pitEq, h1, h2, h3, h4, h5]
        · simp [go_sem, ntEq, pitEq, h1, h2, h3, h4]
      · simp [go_sem, ntEq, pitEq, h1, h2, h3]
    · simp [go_sem, ntEq, pitEq, h1, h2]
  · simp [go_sem, ntEq, pitEq, h1]
end Go.Proofs.YtaikcpidijekpaaGreatDoor
