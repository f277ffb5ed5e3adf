/- How the arguments of a law read: from a reading of the form to plain data. Conditions: none. -/
import Derived.Test.YtaikcpidijekpaaDoorB1
import Derived.ProofKit
import Derived.OpenShut
import Derived.ShutString
import Derived.ChangeOld
import Derived.Deep.Slices
import Derived.Lib.SmallJoins
namespace Go.Proofs.YtaikcpidijekpaaDoor
open Go.ChangeShapes Go.WideShapes Go.ChangeAt Go.RowKit Go.Deep
set_option linter.unusedSimpArgs false
set_option linter.unusedVariables false
set_option maxHeartbeats 1000000

theorem x_own : ownKnob Tryd.prog.godebug = none := by kernel_rfl
theorem x_laidOut : laidOutB Tryd.prog = true := by kernel_rfl

def I64 (x : Int) : Prop := -9223372036854775808 ≤ x ∧ x ≤ 9223372036854775807
theorem I64.of_wf {x : Int} (h : (Lit.int .i64 x).wf = true) : I64 x := by
  simp [Lit.wf, IntKind.min, IntKind.max, IntKind.bits, IntKind.signed] at h
  unfold I64; omega

section
variable {H : Type} {enc : TypeId × Value → H} {P : Program} {w : World} {base : Nat} {spare : Nat → Bool} {held : Bool}

theorem read_int {t : TypeId} (ht : P.underlying t = some (.int .i64)) {fuel : Nat} {cs : List Value} {x : DataW H × List MemPlace}
    (h : DataW.trod enc P w base spare held fuel t cs = some x) : ∃ a : Int, cs = [.int .i64 a] ∧ I64 a := by
  obtain ⟨a, h1, _, h2⟩ := DataW.trod_int ht h
  exact ⟨a, h1, I64.of_wf h2⟩
theorem read_bool {t : TypeId} (ht : P.underlying t = some .bool) {fuel : Nat} {cs : List Value} {x : DataW H × List MemPlace}
    (h : DataW.trod enc P w base spare held fuel t cs = some x) : ∃ a : Bool, cs = [.bool a] := by
  obtain ⟨a, h1, _⟩ := DataW.trod_bool ht h
  exact ⟨a, h1⟩

theorem read_u8 {t : TypeId} (ht : P.underlying t = some (.int .u8)) {fuel : Nat} {cs : List Value} {x : DataW H × List MemPlace}
    (h : DataW.trod enc P w base spare held fuel t cs = some x) : ∃ a : Int, cs = [.int .u8 a] ∧ (0 ≤ a ∧ a ≤ 255) := by
  obtain ⟨a, h1, _, h2⟩ := DataW.trod_int ht h
  refine ⟨a, h1, ?_⟩
  simp [Lit.wf, IntKind.min, IntKind.max, IntKind.bits, IntKind.signed] at h2
  omega

/-- A slice whose elements read as f a, k cells each. -/
theorem read_slice {α : Type} (f : α → List Value) (k : Nat) (hf : ∀ a, (f a).length = k) (hk : 0 < k) (Good : α → Prop) {t e : TypeId} (ht : P.underlying t = some (.slice e)) (hC : P.cellsOf e = k)
    (hr : ∀ (fuel : Nat) (cs : List Value) (x : DataW H × List MemPlace), DataW.trod enc P w base spare held fuel e cs = some x → ∃ a, cs = f a ∧ Good a)
    {fuel : Nat} {cs : List Value} {x : DataW H × List MemPlace} (h : DataW.trod enc P w base spare held fuel t cs = some x) :
    ∃ (v : Value) (l : List α), cs = [v] ∧ Rd w v k l.length (cellsOf f l) ∧ ∀ a ∈ l, Good a := by
  rcases open_slice ht h with ⟨rfl, _⟩ | ⟨a, len, cap, m, n, D, Pl, rfl, hb, hl, hm, hmm, _, hi⟩
  · exact ⟨_, [], rfl, ⟨by simp [cellsOf], none, 0, rfl, Nat.le_refl _, by simp [maxLen], fun h0 => absurd h0 (by simp)⟩, by simp⟩
  · have hlm : len ≤ m := by rw [hmm]; split <;> omega
    have hex : ∀ i, i < len → ∃ b : α, w.cells? base (a.add (i * k)) k = some (f b) ∧ Good b := by
      intro i hil
      obtain ⟨cs', h1, h2⟩ := hi i (by omega)
      obtain ⟨b, hb1, hb2⟩ := hr _ _ _ h2
      rw [hC] at h1
      exact ⟨b, by rw [h1, hb1], hb2⟩
    -- the list, made element by element
    have hlist : ∀ q, q ≤ len → ∃ l : List α, l.length = q ∧ (∀ b ∈ l, Good b) ∧ ∀ i (hil : i < l.length), w.cells? base (a.add (i * k)) k = some (f l[i]) := by
      intro q
      induction q with
      | zero => intro _; exact ⟨[], rfl, by simp, fun i hil => absurd hil (by simp)⟩
      | succ q ih =>
        intro hq
        obtain ⟨l, hl1, hl2, hl3⟩ := ih (by omega)
        obtain ⟨b, hb1, hb2⟩ := hex q (by omega)
        refine ⟨l ++ [b], by simp [hl1], ?_, fun i hil => ?_⟩
        · intro c hc
          rcases List.mem_append.1 hc with h1 | h1
          · exact hl2 c h1
          · simp at h1; subst h1; exact hb2
        · by_cases h1 : i < l.length
          · rw [List.getElem_append_left h1]; exact hl3 i h1
          · have : i = q := by simp at hil; omega
            subst this
            rw [List.getElem_append_right (by omega)]
            simpa [hl1] using hb1
    obtain ⟨l, hl1, hl2, hl3⟩ := hlist len (Nat.le_refl _)
    refine ⟨_, l, rfl, ⟨cellsOf_len f k hf l, some a, cap, by rw [hl1], by rw [hl1]; exact hl, hm, fun h0 => ?_⟩, hl2⟩
    -- the address has no spot
    have hcell : ∀ i (hil : i < l.length) j, j < k → w.cell? (a.add (i * k + j)) = (f l[i])[j]? := by
      intro i hil j hj
      obtain ⟨_, _, h3⟩ := World.cells?_some (hl3 i hil)
      rw [← h3 j hj, Go.Deep.add_add]
    obtain ⟨b, off, spot⟩ := a
    have hspot : spot = none := by
      have h1 := hcell 0 h0 0 hk
      have h2 : (f l[0])[0]? = some ((f l[0])[0]'(by rw [hf]; exact hk)) := List.getElem?_eq_getElem _
      rw [h2] at h1
      simpa [Addr.add] using World.cell?_spot h1
    subst hspot
    refine ⟨b, off, rfl, fun j u hu => ?_⟩
    have hlen : j < l.length * k := by
      have := (List.getElem?_eq_some_iff.1 hu).1
      rwa [cellsOf_len f k hf] at this
    have hdiv : j / k < l.length := by rw [Nat.div_lt_iff_lt_mul hk]; exact hlen
    have hmod : j % k < k := Nat.mod_lt _ hk
    have hjj : j / k * k + j % k = j := by rw [Nat.mul_comm]; exact Nat.div_add_mod j k
    have h1 := hcell (j / k) hdiv (j % k) hmod
    rw [hjj] at h1
    have h2 := cellsOf_get f k hf l (j / k) (j % k) hmod hdiv
    rw [hjj, hu] at h2
    rw [← h2] at h1
    have hadd : (⟨b, off, none⟩ : Addr).add j = ⟨b, off + j, none⟩ := by unfold Addr.add; split <;> simp_all
    rw [hadd] at h1
    exact h1
end

def Pit.Good (p : Pit) : Prop := I64 p.step ∧ I64 p.alter ∧ I64 p.octave
def Nt.Good (n : Nt) : Prop := n.tone.Good ∧ I64 n.ticks
def Met.Good (m : Met) : Prop := I64 m.beats ∧ I64 m.unit
def Met.cells (m : Met) : List Value := [.int .i64 m.beats, .int .i64 m.unit]

section
variable {H : Type} {enc : TypeId × Value → H} {w : World} {base : Nat} {spare : Nat → Bool} {held : Bool}
set_option maxRecDepth 100000 in
theorem read_pit {fuel : Nat} {cs : List Value} {x : DataW H × List MemPlace} (h : DataW.trod enc Tryd.prog w base spare held fuel 23 cs = some x) :
    ∃ m : Pit, cs = m.cells ∧ m.Good := by
  obtain ⟨ys, n, _, _, hl, hyl, hf⟩ := DataW.trod_struct Tryd.underlying23 h
  have e0 := hf 0 _ rfl
  have e1 := hf 1 _ rfl
  have e2 := hf 2 _ rfl
  rw [show Tryd.prog.cellsOf 23 = 3 from by kernel_rfl] at hl
  match cs, hl with
  | [c0, c1, c2], _ =>
    match ys, hyl with
    | [y0, y1, y2], _ =>
      have i : Tryd.prog.cellsOf 3 = 1 := by kernel_rfl
      simp [i] at e0 e1 e2
      obtain ⟨a, ha, ga⟩ := read_int Tryd.underlying3 e0
      obtain ⟨b, hb, gb⟩ := read_int Tryd.underlying3 e1
      obtain ⟨c, hc, gc⟩ := read_int Tryd.underlying3 e2
      simp at ha hb hc; subst ha hb hc
      exact ⟨⟨a, b, c⟩, rfl, ga, gb, gc⟩
set_option maxRecDepth 100000 in
theorem read_nt {fuel : Nat} {cs : List Value} {x : DataW H × List MemPlace} (h : DataW.trod enc Tryd.prog w base spare held fuel 25 cs = some x) :
    ∃ m : Nt, cs = m.cells ∧ m.Good := by
  obtain ⟨ys, n, _, _, hl, hyl, hf⟩ := DataW.trod_struct Tryd.underlying25 h
  have e0 := hf 0 _ rfl
  have e1 := hf 1 _ rfl
  have e2 := hf 2 _ rfl
  have e3 := hf 3 _ rfl
  rw [show Tryd.prog.cellsOf 25 = 6 from by kernel_rfl] at hl
  match cs, hl with
  | [c0, c1, c2, c3, c4, c5], _ =>
    match ys, hyl with
    | [y0, y1, y2, y3], _ =>
      have i : Tryd.prog.cellsOf 3 = 1 := by kernel_rfl
      have ib : Tryd.prog.cellsOf 4 = 1 := by kernel_rfl
      have ip : Tryd.prog.cellsOf 23 = 3 := by kernel_rfl
      simp [i, ib, ip] at e0 e1 e2 e3
      obtain ⟨a, ha⟩ := read_bool Tryd.underlying4 e0
      obtain ⟨b, hb, gb⟩ := read_pit e1
      obtain ⟨c, hc, gc⟩ := read_int Tryd.underlying3 e2
      obtain ⟨d, hd⟩ := read_bool Tryd.underlying4 e3
      simp [Pit.cells] at ha hb hc hd
      obtain ⟨rfl, rfl, rfl⟩ := hb
      subst ha hc hd
      exact ⟨⟨a, b, c, d⟩, rfl, gb, gc⟩
theorem read_nts {fuel : Nat} {cs : List Value} {x : DataW H × List MemPlace} (h : DataW.trod enc Tryd.prog w base spare held fuel 42 cs = some x) :
    ∃ (v : Value) (l : List Nt), cs = [v] ∧ Rd w v 6 l.length (ntCells l) ∧ ∀ a ∈ l, a.Good :=
  read_slice Nt.cells 6 Nt.cells_len (by omega) Nt.Good Tryd.underlying42 (by kernel_rfl) (fun _ _ _ => read_nt) h
theorem read_bytes {fuel : Nat} {cs : List Value} {x : DataW H × List MemPlace} (h : DataW.trod enc Tryd.prog w base spare held fuel 32 cs = some x) :
    ∃ (v : Value) (l : List Int), cs = [v] ∧ Rd w v 1 l.length (byteCells l) ∧ ∀ a ∈ l, 0 ≤ a ∧ a ≤ 255 :=
  read_slice (fun b => [Value.int .u8 b]) 1 (fun _ => rfl) (by omega) (fun a => 0 ≤ a ∧ a ≤ 255) Tryd.underlying32 (by kernel_rfl) (fun _ _ _ => read_u8 Tryd.underlying5) h
end
end Go.Proofs.YtaikcpidijekpaaDoor
