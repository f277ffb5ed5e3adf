/- Sections: reading; the walk of FnExactSectionValid. Conditions: none. -/
import Derived.Test.YtlhekgjckjcbhaaS1
namespace Go.Proofs.Ytlhekgjckjcbhaa
open Go.RowKit
set_option linter.unusedSimpArgs false
set_option linter.unusedVariables false
set_option maxHeartbeats 4000000

structure Sec where
  bars : Int
  times : Int
  v : Value
  l : List Int
def Sec.cells (s : Sec) : List Value := [.int .i64 s.bars, .int .i64 s.times, s.v]
abbrev Sec.val (s : Sec) : Value := .agg #[.int .i64 s.bars, .int .i64 s.times, s.v]
def Sec.Good (s : Sec) (w : World) : Prop := I64 s.bars ∧ I64 s.times ∧ Rd w s.v 1 s.l.length (intCells s.l) ∧ ∀ a ∈ s.l, I64 a
section
variable {H : Type} {enc : TypeId × Value → H} {w : World} {base : Nat} {spare : Nat → Bool} {held : Bool}
set_option maxRecDepth 100000 in
theorem read_sec {fuel : Nat} {cs : List Value} {x : DataW H × List MemPlace} (h : DataW.trod enc Try.prog w base spare held fuel 78 cs = some x) :
    ∃ m : Sec, cs = m.cells ∧ m.Good w := by
  obtain ⟨ys, n, _, _, hl, hyl, hf⟩ := DataW.trod_struct Try.underlying78 h
  have e0 := hf 0 _ rfl
  have e1 := hf 1 _ rfl
  have e2 := hf 2 _ rfl
  rw [show Try.prog.cellsOf 78 = 3 from by kernel_rfl] at hl
  match cs, hl with
  | [c0, c1, c2], _ =>
    match ys, hyl with
    | [y0, y1, y2], _ =>
      have i : Try.prog.cellsOf 3 = 1 := by kernel_rfl
      have ip : Try.prog.cellsOf 41 = 1 := by kernel_rfl
      simp [i, ip] at e0 e1 e2
      obtain ⟨a, ha, ga⟩ := read_int Try.underlying3 e0
      obtain ⟨b, hb, gb⟩ := read_int Try.underlying3 e1
      obtain ⟨c, l, hc, gc, gl⟩ := read_ints e2
      simp at ha hb hc
      subst ha hb hc
      exact ⟨⟨a, b, _, l⟩, rfl, ga, gb, gc, gl⟩
end
theorem c_szSection_top (b t : Int) (v : Value) (n : Nat) (xs : List Value) (w : World) (h : Rd w v 1 n xs) :
    Calls Try.prog 55 #[.agg #[.int .i64 b, .int .i64 t, v], .int .i64 1048576] w fun e w' => e = .returned (.int .i64 (if n ≤ 1048576 then ((1048576 - n : Nat) : Int) else -1)) ∧ Below w.heap.size w w' :=
  c_szSection b t v n 1048576 xs w h (Nat.le_refl _)
end Go.Proofs.Ytlhekgjckjcbhaa
