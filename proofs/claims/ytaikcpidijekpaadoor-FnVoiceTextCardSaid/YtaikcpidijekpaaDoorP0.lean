/- Plain laws on voices: no program. Conditions: none. -/
import Derived.Test.YtaikcpidijekpaaDoorB1
namespace Go.Proofs.YtaikcpidijekpaaDoor
set_option linter.unusedSimpArgs false
set_option linter.unusedVariables false
set_option maxHeartbeats 1000000

def pitEq (a b : Pit) : Bool := a.step == b.step && a.alter == b.alter && a.octave == b.octave
theorem pitEq_iff {a b : Pit} : pitEq a b = true ↔ a = b := by
  obtain ⟨a1, a2, a3⟩ := a; obtain ⟨b1, b2, b3⟩ := b
  simp [pitEq, and_assoc]
def ntEq (a b : Nt) : Bool := a.rest == b.rest && pitEq a.tone b.tone && a.ticks == b.ticks && a.tied == b.tied
theorem ntEq_iff {a b : Nt} : ntEq a b = true ↔ a = b := by
  obtain ⟨a1, a2, a3, a4⟩ := a; obtain ⟨b1, b2, b3, b4⟩ := b
  simp [ntEq, pitEq_iff, and_assoc]
instance : DecidableEq Nt := fun a b => decidable_of_iff (ntEq a b = true) ntEq_iff
instance : DecidableEq Pit := fun a b => decidable_of_iff (pitEq a b = true) pitEq_iff
def Pit.zero : Pit := ⟨0, 0, 0⟩
def noteValid (n : Nt) : Bool := inB n.ticks 1 768 && (if n.rest = true then pitEq n.tone Pit.zero && !n.tied else pitchValid n.tone)

def okAt (ns : List Nt) (i : Nat) : Bool := match ns[i]? with
  | none => true
  | some n => noteValid n && (!n.tied || (match ns[i + 1]? with | none => false | some m => !m.rest && pitEq m.tone n.tone))
def voiceValid (ns : List Nt) : Bool := decide (ns.length ≤ 60) && (List.range ns.length).all (okAt ns)
theorem voiceValid_iff {ns : List Nt} : voiceValid ns = true ↔ ns.length ≤ 60 ∧ ∀ i, i < ns.length → okAt ns i = true := by
  simp [voiceValid]
theorem okAt_note {ns : List Nt} {i : Nat} (hi : i < ns.length) (h : okAt ns i = true) : noteValid ns[i] = true := by
  unfold okAt at h
  rw [List.getElem?_eq_getElem hi] at h
  simp at h
  exact h.1
theorem noteValid_ticks {n : Nt} (h : noteValid n = true) : 1 ≤ n.ticks ∧ n.ticks ≤ 768 := by
  unfold noteValid at h
  rw [Bool.and_eq_true, inB_iff] at h
  exact h.1
theorem voiceValid_note {ns : List Nt} (h : voiceValid ns = true) (i : Nat) (hi : i < ns.length) : noteValid ns[i] = true := okAt_note hi ((voiceValid_iff.1 h).2 i hi)

def sumT (ns : List Nt) : Int := (ns.map Nt.ticks).sum
theorem sumT_nil : sumT [] = 0 := rfl
theorem sumT_cons (n : Nt) (ns : List Nt) : sumT (n :: ns) = n.ticks + sumT ns := by simp [sumT]
theorem sumT_append (a b : List Nt) : sumT (a ++ b) = sumT a + sumT b := by simp [sumT]
theorem sumT_succ (ns : List Nt) (k : Nat) (h : k < ns.length) : sumT (ns.take (k + 1)) = sumT (ns.take k) + ns[k].ticks := by
  rw [List.take_succ_eq_append_getElem h, sumT_append]
  simp [sumT]
theorem sumT_bd (ns : List Nt) (h : ∀ i (hi : i < ns.length), 0 ≤ ns[i].ticks ∧ ns[i].ticks ≤ 768) (k : Nat) (hk : k ≤ ns.length) : 0 ≤ sumT (ns.take k) ∧ sumT (ns.take k) ≤ 768 * k := by
  induction k with
  | zero => simp [sumT]
  | succ k ih =>
    have h1 := ih (by omega)
    rw [sumT_succ ns k (by omega)]
    have h2 := h k (by omega)
    omega
theorem voiceValid_bd {ns : List Nt} (h : voiceValid ns = true) : ns.length ≤ 60 ∧ ∀ i (hi : i < ns.length), 1 ≤ ns[i].ticks ∧ ns[i].ticks ≤ 768 :=
  ⟨(voiceValid_iff.1 h).1, fun i hi => noteValid_ticks (voiceValid_note h i hi)⟩
theorem sumT_valid {ns : List Nt} (h : voiceValid ns = true) : 0 ≤ sumT ns ∧ sumT ns ≤ 46080 := by
  obtain ⟨h1, h2⟩ := voiceValid_bd h
  have := sumT_bd ns (fun i hi => ⟨by have := (h2 i hi).1; omega, (h2 i hi).2⟩) ns.length (Nat.le_refl _)
  rw [List.take_length] at this
  omega

/-! ### Splitting at bars. -/
def splitN (bar : Int) : Nat → Int → Nt → List Nt × Int
  | 0, r, n => ([n], if r - n.ticks = 0 then bar else r - n.ticks)
  | f + 1, r, n => if r < n.ticks then
      ({ n with ticks := r, tied := !n.rest } :: (splitN bar f bar { n with ticks := n.ticks - r }).1, (splitN bar f bar { n with ticks := n.ticks - r }).2)
    else ([n], if r - n.ticks = 0 then bar else r - n.ticks)
def splitV (bar : Int) : Int → List Nt → List Nt × Int
  | r, [] => ([], r)
  | r, n :: ns => ((splitN bar n.ticks.toNat r n).1 ++ (splitV bar (splitN bar n.ticks.toNat r n).2 ns).1, (splitV bar (splitN bar n.ticks.toNat r n).2 ns).2)

theorem splitN_more (bar : Int) (hb : 0 < bar) : ∀ (f : Nat) (r : Int) (n : Nt), 0 < r → n.ticks.toNat ≤ f → splitN bar f r n = splitN bar (f + 1) r n := by
  intro f
  induction f with
  | zero =>
    intro r n hr hf
    have h : ¬ r < n.ticks := by omega
    simp only [splitN, if_neg h]
  | succ f ih =>
    intro r n hr hf
    rw [splitN]
    conv => rhs; rw [splitN]
    by_cases h : r < n.ticks
    · rw [if_pos h, if_pos h, ih bar _ hb (by simp; omega)]
    · rw [if_neg h, if_neg h]
theorem splitN_fuel (bar : Int) (hb : 0 < bar) (f : Nat) (r : Int) (n : Nt) (hr : 0 < r) (hf : n.ticks.toNat ≤ f) : splitN bar f r n = splitN bar n.ticks.toNat r n := by
  obtain ⟨d, rfl⟩ := Nat.exists_eq_add_of_le hf
  clear hf
  induction d with
  | zero => rfl
  | succ d ih => rw [← ih, show n.ticks.toNat + (d + 1) = n.ticks.toNat + d + 1 from rfl, ← splitN_more bar hb _ r n hr (by omega)]
/-- One step of the splitting, without fuel. -/
theorem splitN_lt (bar : Int) (hb : 0 < bar) (r : Int) (n : Nt) (hr : 0 < r) (h : r < n.ticks) :
    splitN bar n.ticks.toNat r n = ({ n with ticks := r, tied := !n.rest } :: (splitN bar (n.ticks - r).toNat bar { n with ticks := n.ticks - r }).1, (splitN bar (n.ticks - r).toNat bar { n with ticks := n.ticks - r }).2) := by
  rw [← splitN_fuel bar hb (n.ticks.toNat + 1) r n hr (by omega), splitN, if_pos h]
  have := splitN_fuel bar hb n.ticks.toNat bar { n with ticks := n.ticks - r } hb (by simp; omega)
  rw [this]
theorem splitN_ge (bar : Int) (hb : 0 < bar) (r : Int) (n : Nt) (hr : 0 < r) (h : ¬ r < n.ticks) :
    splitN bar n.ticks.toNat r n = ([n], if r - n.ticks = 0 then bar else r - n.ticks) := by
  rw [← splitN_fuel bar hb (n.ticks.toNat + 1) r n hr (by omega), splitN, if_neg h]
theorem splitV_snoc (bar : Int) : ∀ (l : List Nt) (r : Int) (n : Nt),
    splitV bar r (l ++ [n]) = ((splitV bar r l).1 ++ (splitN bar n.ticks.toNat (splitV bar r l).2 n).1, (splitN bar n.ticks.toNat (splitV bar r l).2 n).2) := by
  intro l
  induction l with
  | nil => intro r n; simp [splitV]
  | cons a l ih => intro r n; rw [List.cons_append, splitV, splitV, ih]; simp
end Go.Proofs.YtaikcpidijekpaaDoor
